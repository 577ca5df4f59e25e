/- The contract of the reference table's Note, in terms of what is noted since when. No condition. -/
import Derived.Test.YtdpchfifaidamaaTo
namespace Go.Proofs.Ytdpchfifaidamaa.T
open Go.RowKit Go.Maps Go.Proofs.YtdpchfifaidamaaW.PrintWords Go.Proofs.Ytdpchfifaidamaa.B
set_option linter.unusedVariables false
set_option linter.unusedSimpArgs false

/-- the list is the table, in order. -/
structure Inv (f : ByteArray → Option Int) (L : List NT) : Prop where
  srt : L.Pairwise (fun a b => nltB a b = true)
  mem : ∀ s c, f s = some c ↔ (⟨s, c⟩ : NT) ∈ L
  sz : ∀ n ∈ L, n.name.size ≤ maxLen
theorem inv_nil : Inv (fun _ => none) [] := ⟨List.Pairwise.nil, by simp, by simp⟩
theorem nlt_total {a b : NT} (hne : a.name ≠ b.name) (h : nltB a b = false) : nltB b a = true := by
  unfold nltB at h ⊢
  simp only [Bool.or_eq_false_iff, decide_eq_false_iff_not, Bool.and_eq_false_iff] at h
  obtain ⟨h1, h2⟩ := h
  by_cases e : a.since = b.since
  · have h3 := h2.resolve_left (fun h => h e)
    have := bl_total _ _ (toList_ne hne) h3
    simp [e, this]
  · simp; omega
theorem nlt_trans {a b c : NT} (h : nltB a b = true) (h' : nltB b c = true) : nltB a c = true := by
  unfold nltB at h h' ⊢
  simp only [Bool.or_eq_true, decide_eq_true_eq, Bool.and_eq_true] at h h' ⊢
  rcases h with h | ⟨h1, h2⟩ <;> rcases h' with h' | ⟨h1', h2'⟩
  · exact .inl (by omega)
  · exact .inl (by omega)
  · exact .inl (by omega)
  · exact .inr ⟨by omega, bl_trans _ _ _ h2 h2'⟩
theorem Inv.drop {f : ByteArray → Option Int} {L : List NT} (h : Inv f L) (s : ByteArray) : Inv (del f s) (L.filter (keepB s)) := by
  refine ⟨List.Pairwise.filter _ h.srt, fun t c => ?_, fun n hn => h.sz n (List.mem_filter.1 hn).1⟩
  rw [List.mem_filter, ← h.mem]
  unfold del keepB
  by_cases e : t = s
  · subst e; simp
  · simp [e]
theorem Inv.put {f : ByteArray → Option Int} {L : List NT} (h : Inv f L) (n : NT) (hn : f n.name = none) (hs : n.name.size ≤ maxLen) (i : Nat) (hi : i ≤ L.length) (h1 : ∀ a ∈ L.take i, nltB a n = true) (h2 : ∀ h : i < L.length, nltB L[i] n = false) :
    Inv (upd f n.name n.since) (L.take i ++ n :: L.drop i) := by
  have hne : ∀ a ∈ L, a.name ≠ n.name := by
    intro a ha e
    have := (h.mem a.name a.since).2 ha
    rw [e, hn] at this
    cases this
  have hsp : (L.take i ++ L.drop i).Pairwise (fun a b => nltB a b = true) := by rw [List.take_append_drop]; exact h.srt
  obtain ⟨p1, p2, p3⟩ := List.pairwise_append.1 hsp
  have hd : ∀ a ∈ L.drop i, nltB n a = true := by
    intro a ha
    rcases Nat.lt_or_ge i L.length with hl | hl
    · have hf := nlt_total (hne _ (List.getElem_mem hl)) (h2 hl)
      rw [List.drop_eq_getElem_cons hl] at ha p2
      rcases List.mem_cons.1 ha with rfl | ha
      · exact hf
      · exact nlt_trans hf ((List.pairwise_cons.1 p2).1 a ha)
    · rw [List.drop_eq_nil_of_le hl] at ha; cases ha
  refine ⟨List.pairwise_append.2 ⟨p1, List.pairwise_cons.2 ⟨hd, p2⟩, fun a ha b hb => ?_⟩, fun t c => ?_, fun a ha => ?_⟩
  · rcases List.mem_cons.1 hb with rfl | hb
    · exact h1 a ha
    · exact p3 a ha b hb
  · have hm : (⟨t, c⟩ : NT) ∈ L ↔ (⟨t, c⟩ : NT) ∈ L.take i ∨ (⟨t, c⟩ : NT) ∈ L.drop i := by rw [← List.mem_append, List.take_append_drop]
    rw [List.mem_append, List.mem_cons]
    unfold upd
    by_cases e : t = n.name
    · subst e
      rw [if_pos rfl]
      have hno : ¬ (⟨n.name, c⟩ : NT) ∈ L := fun hh => hne _ hh rfl
      rw [hm] at hno
      constructor
      · intro hc; cases hc; exact .inr (.inl rfl)
      · rintro (hh | hh | hh)
        · exact absurd (.inl hh) hno
        · rw [← hh]
        · exact absurd (.inr hh) hno
    · rw [if_neg e, h.mem, hm]
      constructor
      · rintro (hh | hh)
        · exact .inl hh
        · exact .inr (.inr hh)
      · rintro (hh | hh | hh)
        · exact .inl hh
        · exact absurd (by rw [← hh]) e
        · exact .inr hh
  · rcases List.mem_append.1 ha with ha | ha
    · exact h.sz a (List.mem_of_mem_take ha)
    · rcases List.mem_cons.1 ha with rfl | ha
      · exact hs
      · exact h.sz a (List.mem_of_mem_drop ha)
theorem Inv.look_eq {f : ByteArray → Option Int} {L : List NT} (h : Inv f L) (s : ByteArray) : look L s = f s := by
  cases hf : f s with
  | none =>
    unfold look
    rw [List.find?_eq_none.2]
    · rfl
    · intro n hn e
      have := (h.mem n.name n.since).2 hn
      rw [show n.name = s by simpa using e, hf] at this
      cases this
  | some c =>
    have hm := (h.mem s c).1 hf
    unfold look
    cases hfd : L.find? (fun n => decide (n.name = s)) with
    | none =>
      rw [List.find?_eq_none] at hfd
      exact absurd (by simp) (hfd _ hm)
    | some n =>
      have h1 := List.mem_of_find?_eq_some hfd
      have h2 := List.find?_some hfd
      have := (h.mem n.name n.since).2 h1
      rw [show n.name = s by simpa using h2, hf] at this
      simp at this ⊢
      exact this.symm
theorem Inv.congr {f f' : ByteArray → Option Int} {L : List NT} (h : Inv f L) (he : f = f') : Inv f' L := he ▸ h
theorem Inv.place_neg {f : ByteArray → Option Int} {L : List NT} (h : Inv f L) (s : ByteArray) : (placeI L s < 0) ↔ f s = none := by
  constructor
  · intro hp
    rw [← h.look_eq, look_none hp]
  · intro hf
    rw [placeI_none]
    · omega
    · intro n hn e
      have := (h.mem n.name n.since).2 hn
      rw [e, hf] at this
      cases this

def f1k (f : ByteArray → Option Int) (L : List NT) (names : List ByteArray) (k : Nat) : ByteArray → Option Int := fun s => if s ∈ names ∨ ¬ s ∈ (L.take k).map NT.name then f s else none
def f2k (f : ByteArray → Option Int) (names : List ByteArray) (now : Int) (k : Nat) : ByteArray → Option Int := fun s => if s ∈ names then fstf f (names.take k) now s else none
theorem f1k_zero (f : ByteArray → Option Int) (L : List NT) (names : List ByteArray) : f1k f L names 0 = f := by funext s; simp [f1k]
theorem f1k_keep (f : ByteArray → Option Int) (L : List NT) (names : List ByteArray) (k : Nat) (hk : k < L.length) (h : L[k].name ∈ names) : f1k f L names k = f1k f L names (k + 1) := by
  funext s
  unfold f1k
  rw [List.take_succ_eq_append_getElem hk, List.map_append]
  generalize (L.take k).map NT.name = T
  by_cases hs : s ∈ names
  · simp [hs]
  · have : s ≠ L[k].name := fun e => hs (e ▸ h)
    simp [hs, this]
theorem f1k_drop (f : ByteArray → Option Int) (L : List NT) (names : List ByteArray) (k : Nat) (hk : k < L.length) (h : ¬ L[k].name ∈ names) : del (f1k f L names k) L[k].name = f1k f L names (k + 1) := by
  funext s
  unfold f1k del
  rw [List.take_succ_eq_append_getElem hk, List.map_append]
  generalize (L.take k).map NT.name = T
  by_cases e : s = L[k].name
  · subst e; simp [h]
  · simp [e]
theorem f1k_end {f : ByteArray → Option Int} {L : List NT} (hI : Inv f L) (names : List ByteArray) (now : Int) : f1k f L names L.length = f2k f names now 0 := by
  funext s
  unfold f1k f2k
  rw [List.take_length, List.take_zero, fstf_nil]
  by_cases hs : s ∈ names
  · simp [hs]
  · simp only [hs, false_or, if_false]
    split
    · rename_i h
      cases hf : f s with
      | none => rfl
      | some c => exact absurd (List.mem_map.2 ⟨_, (hI.mem s c).1 hf, rfl⟩) h
    · rfl
theorem f2k_step_old (f : ByteArray → Option Int) (names : List ByteArray) (now : Int) (k : Nat) (hk : k < names.length) (h : ¬ f2k f names now k names[k] = none) : f2k f names now k = f2k f names now (k + 1) := by
  funext s
  unfold f2k at h ⊢
  rw [if_pos (List.getElem_mem hk)] at h
  rw [List.take_succ_eq_append_getElem hk, ← fstf_old f _ now names[k] (by cases hh : fstf f (names.take k) now names[k]; exact absurd hh h; rfl)]
theorem f2k_step_new (f : ByteArray → Option Int) (names : List ByteArray) (now : Int) (k : Nat) (hk : k < names.length) (h : f2k f names now k names[k] = none) : upd (f2k f names now k) names[k] now = f2k f names now (k + 1) := by
  funext s
  unfold f2k at h ⊢
  rw [if_pos (List.getElem_mem hk)] at h
  rw [List.take_succ_eq_append_getElem hk, ← fstf_new f _ now names[k] (by rw [h]; rfl)]
  unfold upd
  by_cases e : s = names[k]
  · subst e; simp [List.getElem_mem hk]
  · simp [e]
theorem f2k_end (f : ByteArray → Option Int) (names : List ByteArray) (now : Int) : f2k f names now names.length = noted f names now := by
  funext s
  unfold f2k noted fstf
  rw [List.take_length]
  by_cases hs : s ∈ names
  · cases f s <;> simp [hs]
  · simp [hs]
theorem cell_not_tab {w : World} {g : Nat} {A : Option Addr} {n c : Nat} (h : w.heap[g]? = some (.cells #[.slice A n c] 63 (0, 0))) {a : Addr} {s : ByteArray} (hc : w.cell? a = some (.string s)) : a.block ≠ g := by
  intro e
  have h1 : w.heap[a.block]? = some (.cells #[.slice A n c] 63 (0, 0)) := by rw [e]; exact h
  unfold World.cell? at hc
  rw [h1] at hc
  simp only at hc
  split at hc
  · cases hc
  · cases ho : a.off with
    | zero => rw [ho] at hc; simp at hc
    | succ k => rw [ho] at hc; simp at hc

structure N1 (w wr : World) (g : Nat) (L cur : List NT) (f : ByteArray → Option Int) (n : Nat) : Prop where
  rt : RT wr g cur
  inv : Inv f cur
  len : cur.length ≤ n
  fr : Fr (fun k => k = g) w wr
def RNotePost (w : World) (g n : Nat) (f : ByteArray → Option Int) (e : Ending) (w' : World) : Prop := ∃ L', e = .returned (.tuple #[]) ∧ RT w' g L' ∧ Inv f L' ∧ L'.length ≤ n ∧ Fr (fun k => k = g) w w'

set_option maxRecDepth 100000 in
set_option maxHeartbeats 4000000 in
theorem rnote_yes (w : World) (g : Nat) (L : List NT) (f : ByteArray → Option Int) (A : Option Addr) (c : Nat) (names : List ByteArray) (now : Int) (h : RT w g L) (hI : Inv f L) (hL : L.length + names.length < 1000000000) (HR : Kd.C Kd.string w A names.length names) (hs : ∀ s ∈ names, s.size ≤ maxLen) (ht : timeB now = true) :
    Calls Try.prog 39 #[.pointer (some ⟨g, 0, none⟩), .slice A names.length c, .int .i64 now] w (RNotePost w g (L.length + names.length) (noted f names now)) := by
  obtain ⟨A0, c0, hb, hlc, hcm, hr, hne⟩ := h.blk
  have hc0 : w.cell? ⟨g, 0, none⟩ = some (.slice A0 L.length c0) := (blk_cell hb 0).trans rfl
  have HT := Aside0.mk h
  have HER := Aside0.mk hr
  have HB := Aside0.mk hb
  have HNE := Aside0.mk hne
  have HII := Aside0.mk hI
  have HRR := Aside0.mk HR
  have HS := Aside0.mk hs
  have HLL := Aside0.mk hL
  have hlm : L.length ≤ 9223372036854775807 := by omega
  have hnm : names.length ≤ 9223372036854775807 := by omega
  clear h hb hlc hcm hr hne hI HR hs hL
  go_enter Try.func39, Try.ntmps39
  go_wp2_with (first
    | (go_at_call 85; refine (rtime_calls _ _).mono ?_; rintro e w' ⟨rfl, rfl⟩))
  go_loopw [7] (fun v7 wr => ∃ k : Nat, k ≤ L.length ∧ v7 = .int .i64 k ∧ Aside0 (∃ cur, N1 w wr g L cur (f1k f L names k) L.length)) (fun v7 _ => L.length - (intOf v7).toNat)
  case atStart => exact ⟨0, Nat.zero_le _, rfl, ⟨L, HT.out, by rw [f1k_zero]; exact HII.out, Nat.le_refl _, Fr.refl _ _⟩⟩
  case round =>
    obtain ⟨k, hk, rfl, HI⟩ := hrel
    by_cases hlt : k < L.length
    · obtain ⟨cur, hI⟩ := HI.out
      have HI := Aside0.mk hI
      clear hI
      obtain ⟨ad, e, hn, hs⟩ := note_cells HER.out k hlt
      cases e
      have hnb : ad.block ≠ g := HNE.out ad rfl (by omega)
      have hn' : wr.cell? (ad.add (k * 2)) = some (.string L[k].name) := cell_fr hn HI.out.fr (by rw [add_block]; exact hnb)
      have hnam : Kd.C Kd.string wr A names.length names := by
        refine Kd.C_of_reads (enc := Value.string) (h1 := fun _ => rfl) (d := ByteArray.empty) ⟨rfl, by have := HLL.out; omega, fun h0 => ?_⟩
        obtain ⟨adn, en, hcn⟩ := Kd.at_string HRR.out 0 (by omega) (by omega)
        refine ⟨adn, en, fun j hj => ?_⟩
        obtain ⟨adn', en', hcn'⟩ := Kd.at_string HRR.out (j : Int) (by omega) (by omega)
        rw [en] at en'
        cases en'
        have := cell_fr hcn' HI.out.fr (cell_not_tab HB.out hcn')
        simpa [rdOf] using this
      have HNM := Aside0.mk hnam
      have hnl : names.length ≤ 1000000000 := by have := HLL.out; omega
      have HNL := Aside0.mk hnl
      have hkk0 : (0 : Int) ≤ k := by omega
      clear hn hs hnb hnam hnl
      by_cases hin : L[k].name ∈ names
      · have HIN := Aside0.mk hin
        have hdi : decide (L[k].name ∈ names) = true := by simpa using hin
        have HDI := Aside0.mk hdi
        clear hin hdi
        go_wp2_with (first
          | (go_at_call 86; refine (among_calls _ A c names _ HNM.out HNL.out).mono ?_; rintro e w' ⟨rfl, rfl⟩; rw [HDI.out]))
        go_roundw
        case rel => exact ⟨k + 1, by omega, by go_num, ⟨cur, HI.out.rt, by rw [← f1k_keep f L names k hlt HIN.out]; exact HI.out.inv, HI.out.len, HI.out.fr⟩⟩
        case measure => simp [intOf]; omega
      · have HIN := Aside0.mk hin
        have hdi : decide (L[k].name ∈ names) = false := by simpa using hin
        have HDI := Aside0.mk hdi
        have HCL := Aside0.mk (show cur.length < 1000000000 by have := HI.out.len; have := HLL.out; omega)
        clear hin hdi
        go_wp2_with (first
          | (go_at_call 86; refine (among_calls _ A c names _ HNM.out HNL.out).mono ?_; rintro e w' ⟨rfl, rfl⟩; rw [HDI.out])
          | (go_at_call 41; refine (rdrop_calls _ g cur _ HI.out.rt HCL.out).mono ?_; rintro e w2 ⟨rfl, hrt2, hf2⟩; have HRT2 := Aside0.mk hrt2; have HF2 := Aside0.mk hf2; clear hrt2 hf2))
        go_roundw
        case rel => exact ⟨k + 1, by omega, by go_num, ⟨_, HRT2.out, by rw [← f1k_drop f L names k hlt HIN.out]; exact HI.out.inv.drop _, Nat.le_trans (List.length_filter_le _ _) HI.out.len, HI.out.fr.then_ HF2.out (fun _ h => .inl h)⟩⟩
        case measure => simp [intOf]; omega
    · obtain rfl : k = L.length := by omega
      have HI0 := HI.out
      rw [f1k_end HII.out names now] at HI0
      have HIa := Aside0.mk HI0
      clear HI HI0
      go_wp2
      go_loopw [8] (fun v8 wr => ∃ k : Nat, k ≤ names.length ∧ v8 = .int .i64 k ∧ Aside0 (∃ cur, N1 w wr g L cur (f2k f names now k) (L.length + k))) (fun v8 _ => names.length - (intOf v8).toNat)
      case atStart => exact ⟨0, Nat.zero_le _, rfl, HIa⟩
      case round =>
        clear HIa
        obtain ⟨k, hk, rfl, HI⟩ := hrel
        obtain ⟨cur, hI⟩ := HI.out
        have HI := Aside0.mk hI
        clear hI
        by_cases hlt : k < names.length
        · obtain ⟨ad, e, hcell⟩ := Kd.at_string HRR.out (k : Int) (by omega) (by omega)
          cases e
          obtain ⟨x, hx⟩ : ∃ x, x = rdOf ByteArray.empty names (k : Int) := ⟨_, rfl⟩
          rw [← hx] at hcell
          have hnb := cell_not_tab HB.out hcell
          have hcell' := cell_fr hcell HI.out.fr hnb
          rw [Int.toNat_natCast] at hcell'
          have hxk : x = names[k] := hx.trans (rdOf_lt names k hlt)
          have HXK := Aside0.mk hxk
          have HXS := Aside0.mk (show x.size ≤ maxLen by rw [hxk]; exact HS.out _ (List.getElem_mem hlt))
          have hkk0 : (0 : Int) ≤ k := by omega
          clear hcell hnb hx hxk
          by_cases hp : placeI cur x < 0
          · have hfx := (HI.out.inv.place_neg x).1 hp
            have HFX := Aside0.mk hfx
            have hdp : decide (placeI cur x < 0) = true := decide_eq_true hp
            have HCL := Aside0.mk (show cur.length < 1000000000 by have := HI.out.len; have := HLL.out; omega)
            clear hfx
            go_wp2_with (first
              | (go_at_call 87; refine (place_calls _ g cur x HI.out.rt).mono ?_; rintro e w' ⟨rfl, rfl⟩)
              | (go_at_call 88; refine (rput_calls _ g cur ⟨x, now⟩ HI.out.rt HCL.out HI.out.inv.sz HXS.out).mono ?_; rintro e w2 ⟨i, hi, h1, h2, rfl, hrt2, hf2⟩; have HRT2 := Aside0.mk hrt2; have HF2 := Aside0.mk hf2; have HI2 := Aside0.mk hi; have H1 := Aside0.mk h1; have H2 := Aside0.mk h2; clear hrt2 hf2 hi h1 h2))
            go_roundw
            case rel =>
              refine ⟨k + 1, by omega, by go_num, ⟨_, HRT2.out, ?_, ?_, HI.out.fr.then_ HF2.out (fun _ h => .inl h)⟩⟩
              · have h3 := HI.out.inv.put ⟨x, now⟩ HFX.out HXS.out i HI2.out H1.out H2.out
                have hfk : f2k f names now k names[k] = none := by rw [← HXK.out]; exact HFX.out
                rw [← f2k_step_new f names now k hlt hfk, ← HXK.out]
                exact h3
              · have := HI.out.len
                have := HI2.out
                simp
                omega
            case measure => simp [intOf]; omega
          · have hfx := (not_congr (HI.out.inv.place_neg x)).1 hp
            have HFX := Aside0.mk hfx
            have hdp : decide (placeI cur x < 0) = false := decide_eq_false hp
            clear hfx
            go_wp2_with (first
              | (go_at_call 87; refine (place_calls _ g cur x HI.out.rt).mono ?_; rintro e w' ⟨rfl, rfl⟩))
            go_roundw
            case rel =>
              refine ⟨k + 1, by omega, by go_num, ⟨cur, HI.out.rt, ?_, by have := HI.out.len; omega, HI.out.fr⟩⟩
              rw [← f2k_step_old f names now k hlt (by rw [← HXK.out]; exact HFX.out)]
              exact HI.out.inv
            case measure => simp [intOf]; omega
        · obtain rfl : k = names.length := by omega
          go_wp2
          go_end0
          refine ⟨cur, rfl, HI.out.rt, ?_, HI.out.len, HI.out.fr⟩
          rw [← f2k_end]
          exact HI.out.inv

end Go.Proofs.Ytdpchfifaidamaa.T
