/- Lemmas on slices of strings of the call's own: appended to, read, an element laid in between. No condition. -/
import Derived.Test.YtdpchfifaidamaaB0
import Derived.Laws.CopyOwn
namespace Go.Proofs.Ytdpchfifaidamaa.B
open Go.RowKit Go.Maps Go.Proofs.YtdpchfifaidamaaW.PrintWords
set_option linter.unusedVariables false
set_option linter.unusedSimpArgs false

theorem info9 : (Try.prog.info? 9).map (fun i => (i.zero, i.size, i.bytes)) = some (some (.string ⟨#[]⟩), 1, 16) := by kernel_rfl
theorem info9s : (Try.prog.info? 9).map (·.size) = some 1 := by kernel_rfl

def strs (l : List ByteArray) : List Value := encs Value.string l
def SOwn (w : World) (base : Nat) (v : Value) (l : List ByteArray) : Prop := w.ownsRow base 9 1 v l.length (strs l)
section
variable {w w' : World} {base : Nat} {v : Value} {l : List ByteArray}
theorem SOwn.nil (w : World) (base : Nat) : SOwn w base (.slice none 0 0) [] := own_nil w base 9 1
theorem SOwn.base_le (h : SOwn w base v l) {k : Nat} (hk : v.ownBlock = some k) : base ≤ k := own_base h k hk
theorem SOwn.lt (h : SOwn w base v l) {k : Nat} (hk : v.ownBlock = some k) : k < w.heap.size := own_lt h k hk
theorem SOwn.fr {S : Nat → Prop} (h : SOwn w base v l) (hk : Fr S w w') (hne : ∀ k, v.ownBlock = some k → ¬ S k) : SOwn w' base v l :=
  own_move h (fun k ho => hk.block k (own_lt h k ho) (hne k ho))
theorem SOwn.alloc (h : SOwn w base v l) (o : Obj) : SOwn (w.alloc o) base v l := h.fr (S := no) ((Fr.refl w no).alloc o) (fun _ _ h => h)
theorem SOwn.drewN (h : SOwn w base v l) (n : Nat) : SOwn (w.drewN n) base v l := h
theorem SOwn.cells (h : SOwn w base v l) {k : Nat} (hk : v.ownBlock = some k) : ∃ cs, w.heap[k]? = some (.cells cs 9 (0, 0)) := own_typed h k hk
theorem SOwn.form (h : SOwn w base v l) : ∃ A c, v = .slice A l.length c ∧ l.length ≤ c ∧ Kd.C Kd.string w A l.length l := by
  obtain ⟨A, c, hv, hle, hr⟩ := own_reads_of_le (d := ByteArray.empty) h
  exact ⟨A, c, hv, hle, Kd.C_of_reads (enc := Value.string) (h1 := fun _ => rfl) hr⟩
theorem SOwn.slice (h : SOwn w base v l) (h0 : 0 < l.length) : ∃ g c, v = .slice (some ⟨g, 0, none⟩) l.length c ∧ base ≤ g ∧ l.length ≤ c ∧ ∃ cur : List Value, w.heap[g]? = some (.cells cur.toArray 9 (0, 0)) ∧ cur.length = c ∧ cur.take l.length = strs l := by
  rcases h.2 with ⟨_, hn⟩ | ⟨g, cap, cur, rfl, hb, hh, hnc, hcm, hcs, htake⟩
  · omega
  · exact ⟨g, cap, rfl, hb, hnc, cur.toList, by simpa using hh, by simpa using hcs, by simpa using htake⟩
theorem SOwn.mk {g c : Nat} {cur : List Value} (hb : base ≤ g) (hh : w.heap[g]? = some (.cells cur.toArray 9 (0, 0))) (hl : l.length ≤ c) (hc : c ≤ maxLen) (hcl : cur.length = c) (ht : cur.take l.length = strs l) :
    SOwn w base (.slice (some ⟨g, 0, none⟩) l.length c) l :=
  ⟨by simp [strs, encs], .inr ⟨g, c, cur.toArray, rfl, hb, hh, hl, hc, by simpa using hcl, by simpa using ht⟩⟩
theorem SOwn.row {g n c : Nat} (h : SOwn w base (.slice (some ⟨g, 0, none⟩) n c) l) : n = l.length ∧ base ≤ g ∧ l.length ≤ c ∧ c ≤ maxLen ∧ ∃ cur : List Value, w.heap[g]? = some (.cells cur.toArray 9 (0, 0)) ∧ cur.length = c ∧ cur.take l.length = strs l := by
  rcases h.2 with ⟨he, hn⟩ | ⟨g', cap, cur, he, hb, hh, hnc, hcm, hcs, htake⟩
  · cases he
  · injection he with e1 e2 e3
    injection e1 with e1
    injection e1 with e1
    subst e1 e2 e3
    exact ⟨rfl, hb, hnc, hcm, cur.toList, by simpa using hh, by simpa using hcs, by simpa using htake⟩
theorem SOwn.kd {A : Option Addr} {n c : Nat} (h : SOwn w base (.slice A n c) l) : Kd.C Kd.string w A l.length l := by
  obtain ⟨A', c', e, _, hC⟩ := h.form
  cases e
  exact hC
theorem SOwn.cap_le {A : Option Addr} {n c : Nat} (h : SOwn w base (.slice A n c) l) : c ≤ maxLen := by
  rcases h.2 with ⟨he, hn⟩ | ⟨g, cap, cur, he, hb, hh, hnc, hcm, hcs, htake⟩
  · cases he; simp [maxLen]
  · cases he; exact hcm
end

section
variable {ops : Array Oper} {rest : List Oper} {o : Oper} {a : Act} {Q : Exit → Act → World → Prop}
theorem wpL_append_str {W : World} (base : Nat) (hgd : o.guard = none) (s x : Operand) (ho : o.op = .call { callee := .builtin .append, args := #[s, x], argTypes := #[27, 27] })
    (v : Value) (l : List ByteArray) (y : ByteArray) (k : Nat) (hs : a.eval s = v) (hx : a.eval x = .slice (some ⟨k, 0, none⟩) 1 1) (hk : W.heap[k]? = some (.cells #[.string y] 9 (0, 0))) (HO : SOwn W base v l) (hbase : base ≤ W.heap.size) (hl : l.length < 1000000000000)
    (h : ∀ g c w1, SOwn w1 base (.slice (some ⟨g, 0, none⟩) (l.length + 1) c) (l ++ [y]) → Fr (fun k => v.ownBlock = some k) W w1 → base ≤ g → (v.ownBlock = some g ∨ g = W.heap.size) → l.length + 1 ≤ c → wpList Try.prog ops Q rest (a.put o.dst (.slice (some ⟨g, 0, none⟩) (l.length + 1) c)) w1) :
    wpList Try.prog ops Q (o :: rest) a W := by
  obtain ⟨i0, hi, hzz⟩ := Option.map_eq_some_iff.1 info9
  simp only [Prod.mk.injEq] at hzz
  obtain ⟨hz0, hz1, hz2⟩ := hzz
  refine wpList_append_own_at W hgd s x 27 ho base 9 i0 _ 1 16 Try.underlying27 hi hz0 hz1 hz2 rfl (by decide) v l.length (strs l) hs HO ⟨k, 0, none⟩ 1 1 [.string y] hx rfl (World.news_of_block hk) (by intro u hu; simp at hu; subst hu; rfl)
    (by simp only [maxLen]; omega) (by omega) hbase ?_
  intro v1 w1 hown hg _ hat
  have hlen : (l ++ [y]).length = l.length + 1 := by simp
  have hown' : SOwn w1 base v1 (l ++ [y]) := by unfold SOwn; rw [hlen]; simpa [strs, encs] using hown
  obtain ⟨g, c, rfl, hbg, hlc, _⟩ := hown'.slice (by omega)
  rw [hlen] at hown' hlc ⊢
  refine h g c w1 hown' (.of_grown hg (fun k e => e.symm ▸ rfl)) hbg ?_ hlc
  rcases hat with hat | hat
  · exact .inl (by rw [← hat]; rfl)
  · exact .inr (by simpa [Value.ownBlock] using hat)
end

section
variable {ops : Array Oper} {rest : List Oper} {o : Oper} {a : Act} {Q : Exit → Act → World → Prop}
theorem wpL_copy_splice {P : Program} {w : World} (hgd : o.guard = none) (d s : Operand) (dT sT : TypeId)
    (ho : o.op = .call { callee := .builtin .copy, args := #[d, s], argTypes := #[dT, sT] }) (elem : TypeId) (hu : P.underlying dT = some (.slice elem)) (hsz : (P.info? elem).map (·.size) = some 1)
    (dp sp : Option Addr) (dLen dCap sLen sCap : Nat) (hd : a.eval d = .slice dp dLen dCap) (hs : a.eval s = .slice sp sLen sCap)
    (g off : Nat) (cur : List Value) (t : TypeId) (hg : w.heap[g]? = some (.cells cur.toArray t (0, 0))) (cs : List Value) (hn : cs.length = Nat.min sLen dLen)
    (hpos : 0 < cs.length → dp = some ⟨g, off, none⟩ ∧ ∃ ad, sp = some ad ∧ ∀ j v, cs[j]? = some v → w.cell? (ad.add j) = some v)
    (hfit : off + cs.length ≤ cur.length) (h1 : ∀ v ∈ cs, v.oneCell' = true)
    (h : ∀ w', w'.heap[g]? = some (.cells (splice cur off cs).toArray t (0, 0)) → Fr (fun k => k = g) w w' → w'.heap.size = w.heap.size → wpList P ops Q rest (a.put o.dst (goInt cs.length)) w') :
    wpList P ops Q (o :: rest) a w := by
  by_cases h0 : cs.length = 0
  · obtain rfl : cs = [] := List.eq_nil_of_length_eq_zero h0
    refine wpList_copy_nothing hgd d s dT sT ho elem hu hsz dp sp dLen dCap sLen sCap hd hs (by simpa using hn.symm) ?_
    exact h w (by simpa [splice] using hg) (Fr.refl w _) rfl
  · obtain ⟨rfl, ad, rfl, hsrc⟩ := hpos (by omega)
    refine wpList_copy_own hgd d s dT sT ho elem hu hsz g off dLen dCap ad sLen sCap hd hs cur.toArray t hg cs hn hsrc (by simpa using hfit) h1 ?_
    exact h _ (by simpa [splice] using setRow_heap w g _ _ t _ hg) ⟨rfl, rfl, rfl, by simp [World.setRow], fun k _ hk => setRow_other w g k _ hk⟩ (by simp [World.setRow])
end
theorem cut_str (g n c m : Nat) (k : Int) (hk : k = m) (hm : m ≤ n) : ∃ A' : Option Addr,
    (∀ W : World, (Instr.slice 27 (.slice (some ⟨g, 0, none⟩) n c) (some (.int .i64 k)) none none).run Try.prog W = .ok (.slice A' (n - m) (c - m)) W) ∧ (c ≠ m → A' = some ⟨g, m, none⟩) := by
  subst hk
  refine ⟨if c = m then some ⟨g, 0, none⟩ else (some (⟨g, 0, none⟩ : Addr)).map (·.add m), fun W => ?_, fun h => by rw [if_neg h]; simp [add_plain]⟩
  obtain ⟨i0, hi, hzz⟩ := Option.map_eq_some_iff.1 info9
  simp only [Prod.mk.injEq] at hzz
  have hel : Try.prog.elem 27 = 9 := by simp [Program.elem, Try.underlying27]
  have hu : Try.prog.underlying 27 = some (.slice (Try.prog.elem 27)) := by rw [hel]; exact Try.underlying27
  rw [run_slice_l W 27 (some ⟨g, 0, none⟩) n c hu .i64 (m : Int) (Int.natCast_nonneg _) (by omega), hel]
  simp [sizeOf, typeInfo, hi, hzz.2.1, sliced, Result.andThen]

/-! ### an element laid in between -/
def ins (l : List ByteArray) (i : Nat) (x : ByteArray) : List ByteArray := l.take i ++ x :: l.drop i
theorem ins_length (l : List ByteArray) (i : Nat) (x : ByteArray) (hi : i ≤ l.length) : (ins l i x).length = l.length + 1 := by simp [ins]; omega
theorem mem_ins (l : List ByteArray) (i : Nat) (x s : ByteArray) : s ∈ ins l i x ↔ s = x ∨ s ∈ l := by
  unfold ins
  have : s ∈ l ↔ s ∈ l.take i ∨ s ∈ l.drop i := by
    rw [← List.mem_append, List.take_append_drop]
  rw [List.mem_append, List.mem_cons, this]
  constructor
  · rintro (h | h | h)
    · exact .inr (.inl h)
    · exact .inl h
    · exact .inr (.inr h)
  · rintro (h | h | h)
    · exact .inr (.inl h)
    · exact .inl h
    · exact .inr (.inr h)
theorem splice_ins (cur : List Value) (l : List ByteArray) (y x : ByteArray) (i : Nat) (hi : i ≤ l.length) (hlc : l.length + 1 ≤ cur.length) (h : cur.take (l.length + 1) = strs (l ++ [y])) :
    ((splice cur (i + 1) (strs (l.drop i))).set i (.string x)).take (l.length + 1) = strs (ins l i x) := by
  have hl : (strs (l.drop i)).length = l.length - i := by simp [strs, encs]
  have hsz : (splice cur (i + 1) (strs (l.drop i))).length = cur.length := length_splice _ _ _ (by rw [hl]; omega)
  have hget : ∀ j, j < l.length → cur[j]? = some (.string (l.getD j ByteArray.empty)) := by
    intro j hj
    have h1 : (cur.take (l.length + 1))[j]? = cur[j]? := List.getElem?_take_of_lt (by omega)
    rw [← h1, h]
    simp only [strs, encs, List.map_append, List.getElem?_append, List.length_map, hj, if_true, List.getElem?_map, List.getElem?_eq_getElem hj, Option.map_some, List.getD_eq_getElem?_getD, Option.getD_some]
  apply List.ext_getElem?
  intro j
  have hins : (strs (ins l i x))[j]? = ((ins l i x)[j]?).map Value.string := by simp [strs, encs]
  rw [hins]
  by_cases hj : j < l.length + 1
  · rw [List.getElem?_take_of_lt hj, List.getElem?_set]
    by_cases e : i = j
    · subst e
      rw [if_pos rfl, if_pos (by rw [hsz]; omega)]
      simp only [ins]
      have hl2 : (l.take i).length = i := by simp; omega
      rw [List.getElem?_append_right (by rw [hl2]; omega), hl2]
      simp
    · rw [if_neg e]
      unfold splice ins
      by_cases hij : j < i
      · rw [List.getElem?_append_left (by simp; omega), List.getElem?_take_of_lt (by omega), hget j (by omega), List.getElem?_append_left (by simp; omega), List.getElem?_take_of_lt hij]
        simp [List.getElem?_eq_getElem (show j < l.length by omega)]
      · have hl1 : (cur.take (i + 1)).length = i + 1 := by simp; omega
        have hl2 : (l.take i).length = i := by simp; omega
        rw [List.getElem?_append_right (by rw [hl1]; omega), hl1, List.getElem?_append_left (by rw [hl]; omega), List.getElem?_append_right (by rw [hl2]; omega), hl2]
        have e1 : j - i = (j - (i + 1)) + 1 := by omega
        rw [e1, List.getElem?_cons_succ]
        simp [strs, encs]
  · rw [List.getElem?_eq_none (by simp; omega), List.getElem?_eq_none (by rw [ins_length _ _ _ hi]; omega)]
    rfl

end Go.Proofs.Ytdpchfifaidamaa.B
