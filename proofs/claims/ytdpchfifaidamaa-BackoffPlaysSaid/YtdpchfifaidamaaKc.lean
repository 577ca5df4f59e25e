/- Contracts of the reference's table of notes of failures: place, Until, Length, May, Groups, Fine. No condition. -/
import Derived.Test.YtdpchfifaidamaaKb
namespace Go.Proofs.Ytdpchfifaidamaa.K
open Go.RowKit Go.Maps Go.Proofs.YtdpchfifaidamaaW.PrintWords Go.Proofs.Ytdpchfifaidamaa.B
set_option linter.unusedVariables false
set_option linter.unusedSimpArgs false

theorem n3_cells {w : World} {A : Option Addr} {L : List N3} (h : ER E120 w A L) (j : Nat) (hj : j < L.length) : ∃ ad, A = some ad ∧ w.cell? (ad.add (j * 3)) = some (.string L[j].group) ∧ w.cell? ⟨(ad.add (j * 3)).block, (ad.add (j * 3)).off + 1, none⟩ = some (.int .i64 L[j].len) ∧ w.cell? ⟨(ad.add (j * 3)).block, (ad.add (j * 3)).off + 2, none⟩ = some (.int .i64 L[j].til) := by
  obtain ⟨ad, e, hc⟩ := h j hj
  refine ⟨ad, e, hc 0 _ rfl, ?_, ?_⟩
  · rw [← add_field _ _ 1 (by omega)]; exact hc 1 _ rfl
  · rw [← add_field _ _ 2 (by omega)]; exact hc 2 _ rfl

def place3 (L : List N3) (s : ByteArray) : Int := if L.findIdx (fun n => decide (n.group = s)) < L.length then (L.findIdx (fun n => decide (n.group = s)) : Int) else -1
theorem place3_at {L : List N3} {s : ByteArray} {k : Nat} (hk : k < L.length) (h : L[k].group = s) (hb : ∀ n ∈ L.take k, n.group ≠ s) : place3 L s = k := by
  have hi : L.findIdx (fun n => decide (n.group = s)) = k := by
    rw [List.findIdx_eq hk]
    refine ⟨by simpa using h, fun j hj => ?_⟩
    have : L[j]'(by omega) ∈ L.take k := by
      rw [List.mem_take_iff_getElem]
      exact ⟨j, by omega, rfl⟩
    simpa using hb _ this
  unfold place3
  rw [hi, if_pos hk]
theorem place3_none {L : List N3} {s : ByteArray} (hb : ∀ n ∈ L, n.group ≠ s) : place3 L s = -1 := by
  unfold place3
  rw [if_neg]
  rw [List.findIdx_lt_length]
  rintro ⟨n, hn, h⟩
  exact hb n hn (by simpa using h)
theorem at3_some {L : List N3} {s : ByteArray} (hp : 0 ≤ place3 L s) : ∃ k : Nat, ∃ hk : k < L.length, place3 L s = k ∧ at3 L s = some L[k] ∧ L[k].group = s ∧ ∀ n ∈ L.take k, n.group ≠ s := by
  unfold place3 at hp ⊢
  split at hp
  · rename_i hlt
    refine ⟨_, hlt, by rw [if_pos hlt], ?_, ?_, ?_⟩
    · unfold at3
      rw [List.find?_eq_getElem?_findIdx, List.getElem?_eq_getElem hlt]
    · have := List.findIdx_getElem (w := hlt)
      simpa using this
    · intro n hn e
      obtain ⟨j, hj, rfl⟩ := List.mem_take_iff_getElem.1 hn
      have := List.not_of_lt_findIdx (p := fun n : N3 => decide (n.group = s)) (xs := L) (i := j) (by omega)
      simp at this
      exact this e
  · omega
theorem at3_none {L : List N3} {s : ByteArray} (hp : place3 L s < 0) : at3 L s = none := by
  unfold place3 at hp
  split at hp
  · omega
  · rename_i hlt
    unfold at3
    rw [List.find?_eq_none.2]
    intro n hn h
    exact hlt (List.findIdx_lt_length.2 ⟨n, hn, h⟩)
theorem note_some {L : List N3} {s : ByteArray} {n : N3} (h : at3 L s = some n) : nl L s = n.len ∧ nt L s = n.til ∧ (note L s).isSome = true := by
  unfold nl nt note
  rw [h]
  exact ⟨rfl, rfl, rfl⟩
theorem note_none {L : List N3} {s : ByteArray} (h : at3 L s = none) : nl L s = 0 ∧ nt L s = 0 ∧ (note L s).isSome = false := by
  unfold nl nt note
  rw [h]
  exact ⟨rfl, rfl, rfl⟩

set_option maxRecDepth 100000 in
set_option maxHeartbeats 1000000 in
theorem place_calls (w : World) (g : Nat) (v : Value) (base : Nat) (L : List N3) (F M R : Int) (s : ByteArray) (h : BR w g v base L F M R) : Calls Try.prog 83 #[.pointer (some ⟨g, 0, none⟩), .string s] w fun e w' => e = .returned (.int .i64 (place3 L s)) ∧ w = w' := by
  obtain ⟨hc0, -, -, -⟩ := h.cell
  obtain ⟨A, c, rfl, hlc, hcm, hr⟩ := h.own.form
  have HR := Aside0.mk hr
  have hlm : L.length ≤ 9223372036854775807 := by simp only [maxLen] at hcm; omega
  clear h hlc hcm hr
  go_enter Try.func83, Try.ntmps83
  go_wp2
  go_loop [5] (fun i => ∃ k : Nat, k ≤ L.length ∧ i = .int .i64 k ∧ Aside0 (∀ n ∈ L.take k, n.group ≠ s)) (fun i => L.length - (intOf i).toNat)
  case atStart => exact ⟨0, Nat.zero_le _, rfl, ⟨by simp⟩⟩
  case round =>
    obtain ⟨k, hk, rfl, HT⟩ := hrel
    by_cases hlt : k < L.length
    · obtain ⟨ad, e, hn, hs, hs2⟩ := n3_cells HR.out k hlt
      cases e
      have htk : L.take (k + 1) = L.take k ++ [L[k]] := List.take_succ_eq_append_getElem hlt
      by_cases he : L[k].group = s
      · have HP := Aside0.mk (place3_at hlt he HT.out)
        have hb : (L[k].group.toList == s.toList) = true := by simp [he]
        clear he htk hs hs2
        go_wp2
        go_ret
        exact ⟨by rw [HP.out]; rfl, rfl⟩
      · have hb : (L[k].group.toList == s.toList) = false := by simpa using toList_ne he
        have HE := Aside0.mk he
        have HTK := Aside0.mk htk
        clear he htk hs hs2
        go_wp2
        go_round
        case rel => exact ⟨k + 1, by omega, by go_num, ⟨by rw [HTK.out]; intro n hn; rcases List.mem_append.1 hn with h | h; exact HT.out n h; simp at h; rw [h]; exact HE.out⟩⟩
        case measure => simp [intOf]; omega
    · obtain rfl : k = L.length := by omega
      have HP := Aside0.mk (place3_none (L := L) (s := s) (by have := HT.out; rwa [List.take_length] at this))
      go_wp2
      go_ret
      exact ⟨by rw [HP.out]; rfl, rfl⟩

set_option maxRecDepth 100000 in
theorem runtil_calls (w : World) (g : Nat) (v : Value) (base : Nat) (L : List N3) (F M R : Int) (s : ByteArray) (h : BR w g v base L F M R) : Calls Try.prog 32 #[.pointer (some ⟨g, 0, none⟩), .string s] w fun e w' => e = .returned (.int .i64 (nt L s)) ∧ w = w' := by
  have HT := Aside0.mk h
  obtain ⟨hc0, -, -, -⟩ := h.cell
  obtain ⟨A, c, rfl, hlc, hcm, hr⟩ := h.own.form
  have HR := Aside0.mk hr
  have hlm : L.length ≤ 9223372036854775807 := by simp only [maxLen] at hcm; omega
  clear h hlc hcm hr
  by_cases hp : place3 L s < 0
  · have HF := Aside0.mk (note_none (at3_none hp))
    go_enter Try.func32, Try.ntmps32
    go_wp2_with (go_at_call 83; refine (place_calls _ g _ base L F M R s HT.out).mono ?_; rintro e w' ⟨rfl, rfl⟩)
    go_ret
    exact ⟨by rw [HF.out.2.1]; rfl, rfl⟩
  · obtain ⟨k, hk, e1, e2, _, _⟩ := at3_some (by omega : 0 ≤ place3 L s)
    obtain ⟨ad, e, hn, hs, hs2⟩ := n3_cells HR.out k hk
    cases e
    have HF := Aside0.mk (note_some e2)
    have HP := Aside0.mk e1
    clear hp e1 e2 hn
    go_enter Try.func32, Try.ntmps32
    go_wp2_with (go_at_call 83; refine (place_calls _ g _ base L F M R s HT.out).mono ?_; rintro e w' ⟨rfl, rfl⟩; rw [HP.out])
    go_ret
    exact ⟨by rw [HF.out.2.1]; rfl, rfl⟩
set_option maxRecDepth 100000 in
theorem rlength_calls (w : World) (g : Nat) (v : Value) (base : Nat) (L : List N3) (F M R : Int) (s : ByteArray) (h : BR w g v base L F M R) : Calls Try.prog 34 #[.pointer (some ⟨g, 0, none⟩), .string s] w fun e w' => e = .returned (.int .i64 (nl L s)) ∧ w = w' := by
  have HT := Aside0.mk h
  obtain ⟨hc0, -, -, -⟩ := h.cell
  obtain ⟨A, c, rfl, hlc, hcm, hr⟩ := h.own.form
  have HR := Aside0.mk hr
  have hlm : L.length ≤ 9223372036854775807 := by simp only [maxLen] at hcm; omega
  clear h hlc hcm hr
  by_cases hp : place3 L s < 0
  · have HF := Aside0.mk (note_none (at3_none hp))
    go_enter Try.func34, Try.ntmps34
    go_wp2_with (go_at_call 83; refine (place_calls _ g _ base L F M R s HT.out).mono ?_; rintro e w' ⟨rfl, rfl⟩)
    go_ret
    exact ⟨by rw [HF.out.1]; rfl, rfl⟩
  · obtain ⟨k, hk, e1, e2, _, _⟩ := at3_some (by omega : 0 ≤ place3 L s)
    obtain ⟨ad, e, hn, hs, hs2⟩ := n3_cells HR.out k hk
    cases e
    have HF := Aside0.mk (note_some e2)
    have HP := Aside0.mk e1
    clear hp e1 e2 hn
    go_enter Try.func34, Try.ntmps34
    go_wp2_with (go_at_call 83; refine (place_calls _ g _ base L F M R s HT.out).mono ?_; rintro e w' ⟨rfl, rfl⟩; rw [HP.out])
    go_ret
    exact ⟨by rw [HF.out.1]; rfl, rfl⟩
set_option maxRecDepth 100000 in
theorem rmay_calls (w : World) (g : Nat) (v : Value) (base : Nat) (L : List N3) (F M R : Int) (s : ByteArray) (now : Int) (h : BR w g v base L F M R) : Calls Try.prog 30 #[.pointer (some ⟨g, 0, none⟩), .string s, .int .i64 now] w fun e w' => e = .returned (.bool (mayB L s now)) ∧ w = w' := by
  have HT := Aside0.mk h
  obtain ⟨hc0, -, -, -⟩ := h.cell
  obtain ⟨A, c, rfl, hlc, hcm, hr⟩ := h.own.form
  have HR := Aside0.mk hr
  have hlm : L.length ≤ 9223372036854775807 := by simp only [maxLen] at hcm; omega
  clear h hlc hcm hr
  cases ht : timeB now with
  | false =>
    have HB := Aside0.mk ht
    clear ht
    go_enter Try.func30, Try.ntmps30
    go_wp2_with (first
      | (go_at_call 83; refine (place_calls _ g _ base L F M R s HT.out).mono ?_; rintro e w' ⟨rfl, rfl⟩)
      | (go_at_call 81; refine (rtime_calls now _).mono ?_; rintro e w' ⟨rfl, rfl⟩; rw [HB.out]))
    go_ret
    exact ⟨by simp [mayB, HB.out], rfl⟩
  | true =>
    have HB := Aside0.mk ht
    have hn0 : 0 ≤ now := by unfold timeB at ht; simp at ht; exact ht.1
    have HN := Aside0.mk hn0
    clear ht hn0
    by_cases hp : place3 L s < 0
    · have HF := Aside0.mk (note_none (at3_none hp))
      have hpd : decide (place3 L s < 0) = true := decide_eq_true hp
      go_enter Try.func30, Try.ntmps30
      go_wp2_with (first
        | (go_at_call 83; refine (place_calls _ g _ base L F M R s HT.out).mono ?_; rintro e w' ⟨rfl, rfl⟩)
        | (go_at_call 81; refine (rtime_calls now _).mono ?_; rintro e w' ⟨rfl, rfl⟩; rw [HB.out]))
      go_ret
      exact ⟨by simp [mayB, HB.out, HF.out.2.1, HN.out], rfl⟩
    · obtain ⟨k, hk, e1, e2, _, _⟩ := at3_some (by omega : 0 ≤ place3 L s)
      obtain ⟨ad, e, hn, hs, hs2⟩ := n3_cells HR.out k hk
      cases e
      have HF := Aside0.mk (note_some e2)
      have HP := Aside0.mk e1
      have hpd : decide ((k : Int) < 0) = false := decide_eq_false (by omega)
      have hk0 : (0 : Int) ≤ k := by omega
      have hkl : (k : Int) < L.length := by omega
      clear hp e1 e2 hn
      go_enter Try.func30, Try.ntmps30
      go_wp2_with (first
        | (go_at_call 83; refine (place_calls _ g _ base L F M R s HT.out).mono ?_; rintro e w' ⟨rfl, rfl⟩; rw [HP.out])
        | (go_at_call 81; refine (rtime_calls now _).mono ?_; rintro e w' ⟨rfl, rfl⟩; rw [HB.out]))
      go_ret
      exact ⟨by simp [mayB, HB.out, HF.out.2.1], rfl⟩

structure LI (w wr : World) (v : Value) (l : List ByteArray) : Prop where
  own : SOwn wr w.heap.size v l
  fr : Fr no w wr
set_option maxRecDepth 100000 in
set_option maxHeartbeats 1000000 in
theorem rgroups_calls (w : World) (g : Nat) (v : Value) (base : Nat) (L : List N3) (F M R : Int) (h : BR w g v base L F M R) (hL : L.length < 1000000000) : Calls Try.prog 37 #[.pointer (some ⟨g, 0, none⟩)] w (LPost w (L.map N3.group)) := by
  obtain ⟨hc0, -, -, -⟩ := h.cell
  obtain ⟨A, c, rfl, hlc, hcm, hr⟩ := h.own.form
  have HR := Aside0.mk hr
  have hlm : L.length ≤ 9223372036854775807 := by omega
  clear h hlc hcm hr
  go_enter Try.func37, Try.ntmps37
  go_wp2
  go_loopw [3, 4] (fun v i wr => ∃ k : Nat, k ≤ L.length ∧ i = .int .i64 k ∧ Aside0 (LI w wr v ((L.take k).map N3.group))) (fun _ i _ => L.length - (intOf i).toNat)
  case atStart => exact ⟨0, Nat.zero_le _, rfl, ⟨⟨SOwn.nil _ _, Fr.refl _ _⟩⟩⟩
  case round =>
    obtain ⟨k, hk, rfl, HI⟩ := hrel
    have hcg : wr.cell? ⟨g, 0, none⟩ = some (.slice A L.length c) := cell_fr hc0 HI.out.fr (fun h => h)
    by_cases hlt : k < L.length
    · obtain ⟨ad, e, hn, hs, hs2⟩ := n3_cells HR.out k hlt
      cases e
      have htk : L.take (k + 1) = L.take k ++ [L[k]] := List.take_succ_eq_append_getElem hlt
      have hn' : wr.cell? (ad.add (k * 3)) = some (.string L[k].group) := cell_fr hn HI.out.fr (fun h => h)
      have HTK := Aside0.mk htk
      obtain ⟨acc, hacc⟩ : ∃ acc, acc = (L.take k).map N3.group := ⟨_, rfl⟩
      have hfl : acc.length < 1000000000000 := by rw [hacc]; simp; omega
      have hown : SOwn wr w.heap.size u3 acc := by rw [hacc]; exact HI.out.own
      have HFL := Aside0.mk hfl
      have HOW := Aside0.mk hown
      have HAC := Aside0.mk hacc
      obtain ⟨x, hx⟩ : ∃ x, x = L[k].group := ⟨_, rfl⟩
      have HX := Aside0.mk hx
      rw [← hx] at hn'
      clear htk hs hs2 hn hfl hx hown hacc
      go_wp2_with (first
        | (at_builtin; refine wpL_append_str w.heap.size rfl _ _ rfl _ _ x wr.heap.size rfl rfl (heap_alloc_new wr _) (HOW.out.alloc _) ?_ HFL.out ?_; (exact Nat.le_trans HI.out.fr.size (by simp)); intro g2 c2 w3 ho3 hf3 hb3 hl3 hc3; have HO3 := Aside0.mk ho3; have HF3 := Aside0.mk (show Fr (fun k => u3.ownBlock = some k) (wr.alloc _) w3 from hf3); clear ho3 hf3 hb3 hl3))
      go_roundw
      case rel =>
        refine ⟨k + 1, by omega, by go_num, ⟨⟨?_, ?_⟩⟩⟩
        · have := HO3.out
          rw [HTK.out, List.map_append, List.map_cons, List.map_nil, ← HX.out, ← HAC.out]
          exact this
        · exact (HI.out.fr.alloc _).then_ HF3.out (fun k hk => .inr (HI.out.own.base_le hk))
      case measure => simp [intOf]; omega
    · obtain rfl : k = L.length := by omega
      go_wp2
      go_ret
      have ho := HI.out.own
      rw [List.take_length] at ho
      exact ⟨_, rfl, ho, HI.out.fr⟩

structure EI (w wr : World) (v : Value) (l : List N3) : Prop where
  own : EOwn E120 wr w.heap.size v l
  fr : Fr no w wr
def keep3 (s : ByteArray) (n : N3) : Bool := decide (n.group ≠ s)
def RPost (w : World) (g : Nat) (v : Value) (base : Nat) (L : List N3) (F M R : Int) (r : Value) (e : Ending) (w' : World) : Prop :=
  ∃ v', e = .returned r ∧ BR w' g v' base L F M R ∧ Fr (SR g v) w w'
set_option maxRecDepth 100000 in
set_option maxHeartbeats 1000000 in
theorem rfine_calls (w : World) (g : Nat) (v : Value) (base : Nat) (L : List N3) (F M R : Int) (s : ByteArray) (h : BR w g v base L F M R) (hL : L.length < 1000000000) :
    Calls Try.prog 26 #[.pointer (some ⟨g, 0, none⟩), .string s] w (RPost w g v base (L.filter (keep3 s)) F M R (.tuple #[])) := by
  have HH := Aside0.mk h
  obtain ⟨hc0, -, -, -⟩ := h.cell
  obtain ⟨A, c, rfl, hlc, hcm, hr⟩ := h.own.form
  have HR := Aside0.mk hr
  have HB := Aside0.mk h.blk
  have hu120 := Try.underlying120
  have hlm : L.length ≤ 9223372036854775807 := by omega
  clear h hlc hcm hr
  go_enter Try.func26, Try.ntmps26
  go_wp2
  go_loopw [4, 5] (fun v i wr => ∃ k : Nat, k ≤ L.length ∧ i = .int .i64 k ∧ Aside0 (EI w wr v ((L.take k).filter (keep3 s)))) (fun _ i _ => L.length - (intOf i).toNat)
  case atStart => exact ⟨0, Nat.zero_le _, rfl, ⟨⟨EOwn.nil _ _, Fr.refl _ _⟩⟩⟩
  case round =>
    obtain ⟨k, hk, rfl, HI⟩ := hrel
    have hcg : wr.cell? ⟨g, 0, none⟩ = some (.slice A L.length c) := cell_fr hc0 HI.out.fr (fun h => h)
    by_cases hlt : k < L.length
    · obtain ⟨ad, e, hn, hs, hs2⟩ := n3_cells HR.out k hlt
      cases e
      have htk : L.take (k + 1) = L.take k ++ [L[k]] := List.take_succ_eq_append_getElem hlt
      have hn' : wr.cell? (ad.add (k * 3)) = some (.string L[k].group) := cell_fr hn HI.out.fr (fun h => h)
      have hs' : wr.cell? ⟨(ad.add (k * 3)).block, (ad.add (k * 3)).off + 1, none⟩ = some (.int .i64 L[k].len) := cell_fr hs HI.out.fr (fun h => h)
      have hs2' : wr.cell? ⟨(ad.add (k * 3)).block, (ad.add (k * 3)).off + 2, none⟩ = some (.int .i64 L[k].til) := cell_fr hs2 HI.out.fr (fun h => h)
      obtain ⟨acc, hacc⟩ : ∃ acc, acc = (L.take k).filter (keep3 s) := ⟨_, rfl⟩
      have hfl : acc.length < 1000000000 := by
        have := List.length_filter_le (keep3 s) (L.take k)
        rw [hacc]
        simp at this ⊢
        omega
      have hown : EOwn E120 wr w.heap.size u4 acc := by rw [hacc]; exact HI.out.own
      have HFL := Aside0.mk hfl
      have HOW := Aside0.mk hown
      have HAC := Aside0.mk hacc
      obtain ⟨x, hx⟩ : ∃ x, x = L[k] := ⟨_, rfl⟩
      rw [← hx] at hn' hs' hs2' htk
      have HTK := Aside0.mk htk
      clear htk hs hs2 hn hfl hx hown hacc
      by_cases he : x.group = s
      · have hb1 : (x.group.toList == s.toList) = true := by simp [he]
        have hb2 : (x.group.toList != s.toList) = false := by simp [he]
        have hp : keep3 s x = false := by simp [keep3, he]
        have HP := Aside0.mk hp
        clear he hp
        go_wp2
        go_roundw
        case rel => exact ⟨k + 1, by omega, by go_num, ⟨⟨by rw [HTK.out, List.filter_append, List.filter_cons, HP.out]; simp; exact HI.out.own, HI.out.fr⟩⟩⟩
        case measure => simp [intOf]; omega
      · have hb1 : (x.group.toList == s.toList) = false := by simpa using toList_ne he
        have hb2 : (x.group.toList != s.toList) = true := by simpa using toList_ne he
        have hp : keep3 s x = true := by simp [keep3, he]
        have HP := Aside0.mk hp
        clear he hp
        go_wp2_with (first
          | (at_builtin; refine wpL_append_el E120 w.heap.size rfl _ _ rfl _ _ x wr.heap.size rfl rfl (heap_alloc_new wr _) (HOW.out.alloc _) ?_ ?_ ?_; (exact Nat.le_trans HI.out.fr.size (by simp)); (have h9 := HFL.out; show (acc.length + 1) * 32 ≤ _; omega); intro g2 c2 w3 ho3 hf3 hb3 hl3 hc3; have HO3 := Aside0.mk ho3; have HF3 := Aside0.mk (show Fr (fun k => u4.ownBlock = some k) (wr.alloc _) w3 from hf3); clear ho3 hf3 hb3 hl3))
        go_roundw
        case rel =>
          refine ⟨k + 1, by omega, by go_num, ⟨⟨?_, ?_⟩⟩⟩
          · have := HO3.out
            rw [HTK.out, List.filter_append, List.filter_cons, HP.out, ← HAC.out]
            exact this
          · exact (HI.out.fr.alloc _).then_ HF3.out (fun k hk => .inr (HI.out.own.base_le hk))
        case measure => simp [intOf]; omega
    · obtain rfl : k = L.length := by omega
      have hbr := blk_fr HB.out HI.out.fr (fun h => h)
      have HBR := Aside0.mk hbr
      have hfz : wr.frozen? ⟨g, 0, none⟩ = false := blk_frozen hbr 0
      have ho := HI.out.own
      rw [List.take_length] at ho
      obtain ⟨A', c', hv, _, _, _⟩ := ho.form
      subst hv
      have HO := Aside0.mk ho
      clear hbr ho
      go_wp2
      go_end0
      have ho := HO.out
      have hbs := blk_set HBR.out 0 (.slice A' (L.filter (keep3 s)).length c')
      have hfs : Fr (fun k => k = g) wr (wr.setCell ⟨g, 0, none⟩ (.slice A' (L.filter (keep3 s)).length c')) := (Fr.refl wr (fun k => k = g)).setCell (p := ⟨g, 0, none⟩) (.inl rfl) _
      refine ⟨_, rfl, ⟨hbs, ((ho.less HH.out.base_le).fr hfs ?_), Nat.le_trans HH.out.base_le (Nat.le_trans HI.out.fr.size hfs.size)⟩, (HI.out.fr.mono (fun _ h => h.elim)).then_ hfs (fun k hk => .inl (.inl hk))⟩
      intro k hk e
      have h1 := ho.base_le hk
      have h2 := blk_lt HB.out
      rw [e] at h1
      omega

end Go.Proofs.Ytdpchfifaidamaa.K
