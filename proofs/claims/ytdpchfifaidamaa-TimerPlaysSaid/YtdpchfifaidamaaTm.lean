/- Contracts of the reference table's place, Since, Names, Ripe. No condition. -/
import Derived.Test.YtdpchfifaidamaaTl
namespace Go.Proofs.Ytdpchfifaidamaa.T
open Go.RowKit Go.Maps Go.Proofs.YtdpchfifaidamaaW.PrintWords Go.Proofs.Ytdpchfifaidamaa.B
set_option linter.unusedVariables false
set_option linter.unusedSimpArgs false

structure NT where
  name : ByteArray
  since : Int
deriving DecidableEq
instance : Inhabited NT := ⟨⟨⟨#[]⟩, 0⟩⟩
def E124 : ET NT where
  s := 61
  e := 124
  sz := 2
  bytes := 24
  zero := .agg #[.string ⟨#[]⟩, .int .i64 0]
  cells := fun a => [.string a.name, .int .i64 a.since]
  len := fun _ => rfl
  one := fun a u hu => by simp at hu; rcases hu with rfl | rfl <;> rfl
  under := Try.underlying61
  info := by kernel_rfl
  zs := rfl
  pos := by decide
  bpos := by decide

/-- the reference's table in block g. -/
structure RT (w : World) (g : Nat) (L : List NT) : Prop where
  blk : ∃ A c, w.heap[g]? = some (.cells #[.slice A L.length c] 63 (0, 0)) ∧ L.length ≤ c ∧ c ≤ maxLen ∧ ER E124 w A L ∧ ∀ ad, A = some ad → 0 < L.length → ad.block ≠ g
theorem RT.fr {w w' : World} {g : Nat} {L : List NT} {S : Nat → Prop} (h : RT w g L) (hk : Fr S w w') (hg : ¬ S g) (hs : ∀ A c, w.heap[g]? = some (.cells #[.slice A L.length c] 63 (0, 0)) → ∀ ad, A = some ad → 0 < L.length → ¬ S ad.block) : RT w' g L := by
  obtain ⟨A, c, hb, h1, h2, h3, h4⟩ := h.blk
  exact ⟨A, c, blk_fr hb hk hg, h1, h2, h3.fr hk (hs A c hb), h4⟩
theorem RT.no {w w' : World} {g : Nat} {L : List NT} (h : RT w g L) (hk : Fr no w w') : RT w' g L := h.fr hk (fun h => h) (fun _ _ _ _ _ _ h => h)
theorem note_cells {w : World} {A : Option Addr} {L : List NT} (h : ER E124 w A L) (j : Nat) (hj : j < L.length) : ∃ ad, A = some ad ∧ w.cell? (ad.add (j * 2)) = some (.string L[j].name) ∧ w.cell? ⟨(ad.add (j * 2)).block, (ad.add (j * 2)).off + 1, none⟩ = some (.int .i64 L[j].since) := by
  obtain ⟨ad, e, hc⟩ := h j hj
  refine ⟨ad, e, hc 0 _ rfl, ?_⟩
  rw [← add_field _ _ 1 (by omega)]
  exact hc 1 _ rfl

/-- a name's place. -/
def placeI (L : List NT) (s : ByteArray) : Int := if L.findIdx (fun n => decide (n.name = s)) < L.length then (L.findIdx (fun n => decide (n.name = s)) : Int) else -1
theorem placeI_at {L : List NT} {s : ByteArray} {k : Nat} (hk : k < L.length) (h : L[k].name = s) (hb : ∀ n ∈ L.take k, n.name ≠ s) : placeI L s = k := by
  have hi : L.findIdx (fun n => decide (n.name = s)) = k := by
    rw [List.findIdx_eq hk]
    refine ⟨by simpa using h, fun j hj => ?_⟩
    have : L[j]'(by omega) ∈ L.take k := by
      rw [List.mem_take_iff_getElem]
      exact ⟨j, by omega, rfl⟩
    simpa using hb _ this
  unfold placeI
  rw [hi, if_pos hk]
theorem placeI_none {L : List NT} {s : ByteArray} (hb : ∀ n ∈ L, n.name ≠ s) : placeI L s = -1 := by
  unfold placeI
  rw [if_neg]
  rw [List.findIdx_lt_length]
  rintro ⟨n, hn, h⟩
  exact hb n hn (by simpa using h)

set_option maxRecDepth 100000 in
set_option maxHeartbeats 1000000 in
theorem place_calls (w : World) (g : Nat) (L : List NT) (s : ByteArray) (h : RT w g L) : Calls Try.prog 87 #[.pointer (some ⟨g, 0, none⟩), .string s] w fun e w' => e = .returned (.int .i64 (placeI L s)) ∧ w = w' := by
  obtain ⟨A, c, hb, hlc, hcm, hr, _⟩ := h.blk
  have hc0 : w.cell? ⟨g, 0, none⟩ = some (.slice A L.length c) := (blk_cell hb 0).trans rfl
  have HR := Aside0.mk hr
  have hlm : L.length ≤ 9223372036854775807 := by simp only [maxLen] at hcm; omega
  clear h hb hlc hcm hr
  go_enter Try.func87, Try.ntmps87
  go_wp2
  go_loop [5] (fun i => ∃ k : Nat, k ≤ L.length ∧ i = .int .i64 k ∧ Aside0 (∀ n ∈ L.take k, n.name ≠ s)) (fun i => L.length - (intOf i).toNat)
  case atStart => exact ⟨0, Nat.zero_le _, rfl, ⟨by simp⟩⟩
  case round =>
    obtain ⟨k, hk, rfl, HT⟩ := hrel
    by_cases hlt : k < L.length
    · obtain ⟨ad, e, hn, hs⟩ := note_cells HR.out k hlt
      cases e
      have htk : L.take (k + 1) = L.take k ++ [L[k]] := List.take_succ_eq_append_getElem hlt
      by_cases he : L[k].name = s
      · have HP := Aside0.mk (placeI_at hlt he HT.out)
        have hb : (L[k].name.toList == s.toList) = true := by simp [he]
        clear he htk hs
        go_wp2
        go_ret
        exact ⟨by rw [HP.out]; rfl, rfl⟩
      · have hb : (L[k].name.toList == s.toList) = false := by simpa using toList_ne he
        have HE := Aside0.mk he
        have HTK := Aside0.mk htk
        clear he htk hs
        go_wp2
        go_round
        case rel => exact ⟨k + 1, by omega, by go_num, ⟨by rw [HTK.out]; intro n hn; rcases List.mem_append.1 hn with h | h; exact HT.out n h; simp at h; rw [h]; exact HE.out⟩⟩
        case measure => simp [intOf]; omega
    · obtain rfl : k = L.length := by omega
      have HP := Aside0.mk (placeI_none (L := L) (s := s) (by have := HT.out; rwa [List.take_length] at this))
      go_wp2
      go_ret
      exact ⟨by rw [HP.out]; rfl, rfl⟩

def look (L : List NT) (s : ByteArray) : Option Int := (L.find? (fun n => decide (n.name = s))).map NT.since
theorem look_some {L : List NT} {s : ByteArray} (hp : 0 ≤ placeI L s) : ∃ k : Nat, ∃ hk : k < L.length, placeI L s = k ∧ look L s = some L[k].since := by
  unfold placeI at hp ⊢
  split at hp
  · rename_i hlt
    refine ⟨_, hlt, by rw [if_pos hlt], ?_⟩
    unfold look
    rw [List.find?_eq_getElem?_findIdx, List.getElem?_eq_getElem hlt]
    rfl
  · omega
theorem look_none {L : List NT} {s : ByteArray} (hp : placeI L s < 0) : look L s = none := by
  unfold placeI at hp
  split at hp
  · omega
  · rename_i hlt
    unfold look
    rw [List.find?_eq_none.2]
    · rfl
    · intro n hn h
      exact hlt (List.findIdx_lt_length.2 ⟨n, hn, h⟩)
set_option maxRecDepth 100000 in
theorem rsince_calls (w : World) (g : Nat) (L : List NT) (s : ByteArray) (h : RT w g L) : Calls Try.prog 43 #[.pointer (some ⟨g, 0, none⟩), .string s] w fun e w' => e = .returned (.tuple #[.int .i64 ((look L s).getD 0), .bool (look L s).isSome]) ∧ w = w' := by
  have HT := Aside0.mk h
  obtain ⟨A, c, hb, hlc, hcm, hr, _⟩ := h.blk
  have hc0 : w.cell? ⟨g, 0, none⟩ = some (.slice A L.length c) := (blk_cell hb 0).trans rfl
  have HR := Aside0.mk hr
  have hlm : L.length ≤ 9223372036854775807 := by simp only [maxLen] at hcm; omega
  clear h hb hlc hcm hr
  by_cases hp : placeI L s < 0
  · have HF := Aside0.mk (look_none hp)
    go_enter Try.func43, Try.ntmps43
    go_wp2_with (go_at_call 87; refine (place_calls _ g L s HT.out).mono ?_; rintro e w' ⟨rfl, rfl⟩)
    go_ret2
    exact ⟨by rw [HF.out]; rfl, rfl⟩
  · obtain ⟨k, hk, e1, e2⟩ := look_some (by omega : 0 ≤ placeI L s)
    obtain ⟨ad, e, hn, hs⟩ := note_cells HR.out k hk
    cases e
    have HF := Aside0.mk e2
    have HP := Aside0.mk e1
    clear hp e1 e2 hn
    go_enter Try.func43, Try.ntmps43
    go_wp2_with (go_at_call 87; refine (place_calls _ g L s HT.out).mono ?_; rintro e w' ⟨rfl, rfl⟩; rw [HP.out])
    go_ret2
    exact ⟨by rw [HF.out]; rfl, rfl⟩

end Go.Proofs.Ytdpchfifaidamaa.T
