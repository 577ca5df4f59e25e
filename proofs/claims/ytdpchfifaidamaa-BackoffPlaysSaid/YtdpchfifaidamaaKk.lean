/- What Fail does to the list, on both sides alike; what stays true of the list. No condition. -/
import Derived.Test.YtdpchfifaidamaaKj
namespace Go.Proofs.Ytdpchfifaidamaa.K
open Go.RowKit Go.Maps Go.Proofs.YtdpchfifaidamaaW.PrintWords Go.Proofs.Ytdpchfifaidamaa.B
set_option linter.unusedVariables false
set_option linter.unusedSimpArgs false

theorem getD_at {α : Type} {L : List α} {k : Nat} {d : α} (hk : k < L.length) : L.getD k d = L[k] := by simp [List.getD_eq_getElem?_getD, List.getElem?_eq_getElem hk]
structure LOk (L : List N3) (m : Nat) : Prop where
  ok : ∀ n ∈ L, Okn n
  nodup : (L.map N3.group).Nodup
  len : L.length ≤ m
theorem LOk.nil (m : Nat) : LOk [] m := ⟨by simp, by simp, by simp⟩
theorem LOk.mono {L : List N3} {m m' : Nat} (h : LOk L m) (hm : m ≤ m') : LOk L m' := ⟨h.ok, h.nodup, Nat.le_trans h.len hm⟩
theorem LOk.fine {L : List N3} {m : Nat} (h : LOk L m) (s : ByteArray) : LOk (L.filter (keep3 s)) m :=
  ⟨fun n hn => h.ok n (List.mem_filter.1 hn).1, (List.filter_sublist.map _).nodup h.nodup, Nat.le_trans (List.length_filter_le _ _) h.len⟩
def failL (F M R : Int) (L : List N3) (s : ByteArray) (now : Int) : List N3 × Int :=
  if timeB now then
    if place3 L s < 0 then (L ++ [⟨s, F, now + F⟩], F)
    else (L.set (place3 L s).toNat (newNote F M R (L.getD (place3 L s).toNat ⟨⟨#[]⟩, 0, 0⟩) now), newLen F M R (L.getD (place3 L s).toNat ⟨⟨#[]⟩, 0, 0⟩) now)
  else (L, 0)
theorem at3_group {L : List N3} {s : ByteArray} (h : at3 L s = none) : ∀ n ∈ L, n.group ≠ s := by
  unfold at3 at h
  rw [List.find?_eq_none] at h
  intro n hn e
  exact h n hn (by simpa using e)
theorem LOk.fail {F M R : Int} {L : List N3} {m : Nat} (h : LOk L m) (hP : Par F M R) (s : ByteArray) (hs : s.size ≤ maxLen) (now : Int) : LOk (failL F M R L s now).1 (m + 1) := by
  unfold failL
  cases ht : timeB now with
  | false => exact h.mono (by omega)
  | true =>
    have hb : 0 ≤ now ∧ now ≤ 1099511627776 := by unfold timeB at ht; simpa using ht
    have hf1 := hP.f1
    have hf2 : F ≤ 1099511627776 := Int.le_trans hP.fm hP.m1
    by_cases hp : place3 L s < 0
    · rw [if_pos rfl, if_pos hp]
      have hg := at3_group (at3_none hp)
      refine ⟨fun n hn => ?_, ?_, by have := h.len; simp; omega⟩
      · rcases List.mem_append.1 hn with hn | hn
        · exact h.ok n hn
        · simp at hn
          subst hn
          exact ⟨hs, by show 0 ≤ F; omega, hf2, by show 0 ≤ now + F; omega, by show now + F ≤ _; omega⟩
      · rw [List.map_append, List.nodup_append]
        refine ⟨h.nodup, by simp, fun a ha b hb => ?_⟩
        simp at hb
        subst hb
        obtain ⟨n, hn, rfl⟩ := List.mem_map.1 ha
        exact hg n hn
    · rw [if_pos rfl, if_neg hp]
      obtain ⟨k, hk, e1, e2, hg, hq⟩ := at3_some (by omega : 0 ≤ place3 L s)
      rw [e1, Int.toNat_natCast, getD_at hk]
      have hx := h.ok _ (List.getElem_mem hk)
      have hl := newLen_ok hP hx now
      refine ⟨fun n hn => ?_, ?_, by have := h.len; simp; omega⟩
      · rcases List.mem_or_eq_of_mem_set hn with hn | rfl
        · exact h.ok n hn
        · exact ⟨hx.sz, hl.1, hl.2, by have := hx.t0; show 0 ≤ max _ _; omega, by have := hx.t1; show max _ _ ≤ _; omega⟩
      · show ((L.set k (newNote F M R L[k] now)).map N3.group).Nodup
        rw [set_groups hk (newNote F M R L[k] now) rfl]
        exact h.nodup
theorem fail_calls (w : World) (g b : Nat) (v : Value) (base n : Nat) (L : List N3) (F M R : Int) (s : ByteArray) (now : Int) (h : BT w g b v base n L F M R) (hs : s.size ≤ maxLen) (hn : n < 1000000000) {m : Nat} (hok : LOk L m) (hm : m < 1000000000) :
    Calls Try.prog 23 #[.pointer (some ⟨g, 0, none⟩), .string s, .int .i64 now] w (BPost w g b v base (n + 1) (failL F M R L s now).1 F M R (.int .i64 (failL F M R L s now).2)) := by
  unfold failL
  cases ht : timeB now with
  | false =>
    refine (fail_no w g b v base n L F M R s now h ht).mono ?_
    rintro e w' ⟨rfl, rfl⟩
    exact ⟨v, rfl, ⟨h.blk, h.own, h.map.mono (by omega), h.base_le, h.par⟩, Fr.refl _ _⟩
  | true =>
    by_cases hp : place3 L s < 0
    · rw [if_pos rfl, if_pos hp]
      exact fail_new w g b v base n L F M R s now h hs hn (Nat.lt_of_le_of_lt hok.len hm) ht (at3_none hp)
    · rw [if_pos rfl, if_neg hp]
      obtain ⟨k, hk, e1, e2, hg, hq⟩ := at3_some (by omega : 0 ≤ place3 L s)
      rw [e1, Int.toNat_natCast, getD_at hk]
      exact fail_old w g b v base n L F M R s now h hs hn ht k hk e2 hg hq (hok.ok _ (List.getElem_mem hk))
theorem rfail_calls (w : World) (g : Nat) (v : Value) (base : Nat) (L : List N3) (F M R : Int) (s : ByteArray) (now : Int) (h : BR w g v base L F M R) (hP : Par F M R) {m : Nat} (hok : LOk L m) (hm : m < 1000000000) :
    Calls Try.prog 24 #[.pointer (some ⟨g, 0, none⟩), .string s, .int .i64 now] w (RPost w g v base (failL F M R L s now).1 F M R (.int .i64 (failL F M R L s now).2)) := by
  have hL := Nat.lt_of_le_of_lt hok.len hm
  unfold failL
  cases ht : timeB now with
  | false =>
    refine (rfail_no w g s now ht).mono ?_
    rintro e w' ⟨rfl, rfl⟩
    exact ⟨v, rfl, h, Fr.refl _ _⟩
  | true =>
    by_cases hp : place3 L s < 0
    · rw [if_pos rfl, if_pos hp]
      exact rfail_new w g v base L F M R s now h hP hL ht (at3_none hp)
    · rw [if_pos rfl, if_neg hp]
      obtain ⟨k, hk, e1, e2, hg, hq⟩ := at3_some (by omega : 0 ≤ place3 L s)
      rw [e1, Int.toNat_natCast, getD_at hk]
      exact rfail_old w g v base L F M R s now h hP hL ht k hk e1 (hok.ok _ (List.getElem_mem hk))
end Go.Proofs.Ytdpchfifaidamaa.K
