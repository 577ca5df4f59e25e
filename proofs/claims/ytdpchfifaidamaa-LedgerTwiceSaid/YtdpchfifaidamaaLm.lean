/- The walk of the law LedgerTwice: what its table and its copy say. No condition. -/
import Derived.Test.YtdpchfifaidamaaLi
import Derived.Test.YtdpchfifaidamaaLl
import Derived.Test.YtdpchfifaidamaaU9
namespace Go.Proofs.Ytdpchfifaidamaa.L
open Go.RowKit Go.Maps Go.Proofs.YtdpchfifaidamaaW.PrintWords Go.Proofs.Ytdpchfifaidamaa.B Go.Proofs.Ytdpchfifaidamaa.U Go.Proofs.Ytdpchfifaidamaa.PLedgerTells
set_option linter.unusedVariables false
set_option linter.unusedSimpArgs false

/-- the arguments of the law. -/
structure TA (w : World) (A1 : Option Addr) (c1 : Nat) (l : List S76) (A2 : Option Addr) (c2 : Nat) (I : List S135) : Prop where
  r1 : Kd.C k76 w A1 l.length l
  h1 : l.length ≤ c1
  r2 : Kd.C k135 w A2 I.length I
  h2 : I.length ≤ c2
section
variable {w W : World} {A1 : Option Addr} {c1 : Nat} {l : List S76} {A2 : Option Addr} {c2 : Nat} {I : List S135}
theorem TA.light (h : TA w A1 c1 l A2 c2 I) (hf : Fr no w W) : Calls Try.prog 46 #[.slice A1 l.length c1] W fun e w' => e = .returned (.bool (lightB l)) ∧ Fr no W w' :=
  light_calls W A1 c1 l (Kd.C_below h.r1 hf.no_below) h.h1
theorem TA.right (h : TA w A1 c1 l A2 c2 I) (hf : Fr no w W) (hl : lightB l = true) : Calls Try.prog 69 #[.slice A1 l.length c1] W fun e w' => e = .returned (.bool (groupsB l)) ∧ Fr no W w' :=
  rgroups_calls W A1 c1 l (Kd.C_below h.r1 hf.no_below) h.h1 (okA_of hl).1
theorem one_list {b : Nat} (hb : W.heap[b]? = some (.cells #[.slice A2 I.length c2] 94 (0, 0))) (hr : Kd.C k135 W A2 I.length I) (hc : I.length ≤ c2) : Kd.C (Kd.slice 135 k135) W (some ⟨b, 0, none⟩) 1 [I] := by
  refine kd_block (Kd.slice 135 k135) 1 rfl hb [I] (by simp) (fun j p hp => ?_)
  cases j with
  | zero =>
    simp at hp
    subst hp
    exact ⟨[.slice A2 I.length c2], rfl, ⟨A2, c2, rfl, hc, hr⟩, fun i u hu => by rw [Nat.zero_mul, Nat.zero_add]; exact (Array.getElem?_toList).symm.trans hu⟩
  | succ j => simp at hp
theorem TA.list (h : TA w A1 c1 l A2 c2 I) (hf : Fr no w W) : Calls Try.prog 53 #[.slice (some ⟨W.heap.size, 0, none⟩) 1 1] (W.alloc (.cells #[.slice A2 I.length c2] 94)) fun e w' => e = .returned (.bool (lightIB [I])) ∧ Fr no W w' := by
  have hfa := (Fr.refl W no).alloc (.cells #[.slice A2 I.length c2] 94)
  refine (ilight_calls (W.alloc (.cells #[.slice A2 I.length c2] 94)) (some ⟨W.heap.size, 0, none⟩) 1 [I] (one_list (heap_alloc_new _ _) (Kd.C_below h.r2 (hf.then_ hfa (fun _ h => .inl h)).no_below) h.h2) (Nat.le_refl _)).mono ?_
  rintro e w' ⟨rfl, hf'⟩
  exact ⟨rfl, hfa.then_ hf' (fun _ h => .inl h)⟩
theorem TA.new (h : TA w A1 c1 l A2 c2 I) (hf : Fr no w W) (hl : lightB l = true) (hg : groupsB l = true) : Calls Try.prog 55 #[.slice A1 l.length c1] W (NewPost W (rows l I 0)) := by
  have := new_calls W A1 c1 l (Kd.C_below h.r1 hf.no_below) h.h1 (by have := (okA_of hl).2.1; omega) (okA_of hl).1 hg
  rwa [← rows_zero l I] at this
/-- the law's table after n ticks; fresh since the call began. -/
structure TT (w W : World) (g : Nat) (v : Value) (base : Nat) (l : List S76) (I : List S135) (n : Nat) : Prop where
  lt : LT W g v base (rows l I n) (n : Int)
  fresh : ∀ k, SA g v k → w.heap.size ≤ k
theorem TA.add {g : Nat} {v : Value} {base n : Nat} (h : TA w A1 c1 l A2 c2 I) (hf : Fr no w W) (hg : groupsB l = true) (hI : ltI I = true) (hl : lightB l = true) (ht : TT w W g v base l I n) (hn : n ≤ 100) :
    Calls Try.prog 57 #[.pointer (some ⟨g, 0, none⟩), .slice A2 I.length c2] W fun e w' => e = .returned (.tuple #[]) ∧ TT w w' g v base l I (n + 1) ∧ Fr no w w' ∧ Fr (SA g v) W w' := by
  have hlen : I.length ≤ 60 := (rowI_of hI).1
  have h20 : l.length ≤ 20 := (okA_of hl).2.1
  have hlr : (rows l I n).length ≤ 1000000 := by rw [rows_len]; omega
  refine (add_calls W g v base (rows l I n) (n : Int) A2 c2 I ht.lt (by omega) hlr (by omega) h.h2 (fun W' hf' => Kd.C_below h.r2 (hf.then_ hf' (fun k hk => .inr (ht.fresh k hk))).no_below) (fun i => by have := (rowI_of hI).2 i; simp only [maxLen]; omega) (fun i => (okR_rows hg (by omega) (by omega) i).2) (fun i => (okR_rows hg (by omega) (by omega) i).1)).mono ?_
  rintro e w' ⟨rfl, hlt, hf'⟩
  rw [rows_more] at hlt
  exact ⟨rfl, ⟨hlt, ht.fresh⟩, hf.then_ hf' (fun k hk => .inr (ht.fresh k hk)), hf'⟩
theorem TT.stay {W' : World} {g : Nat} {v : Value} {base n : Nat} (h : TT w W g v base l I n) (hf : Fr no W W') : TT w W' g v base l I n := ⟨h.lt.no hf, h.fresh⟩
theorem TT.copy {g : Nat} {v : Value} {base n : Nat} (h : TT w W g v base l I n) (hf : Fr no w W) (hl : l.length ≤ 20) : Calls Try.prog 59 #[.pointer (some ⟨g, 0, none⟩)] W fun e w' => ∃ g' v', e = .returned (.pointer (some ⟨g', 0, none⟩)) ∧ TT w w' g v base l I n ∧ TT w w' g' v' W.heap.size l I n ∧ Fr no W w' ∧ W.heap.size ≤ g' ∧ ∀ k, SA g v k → k < W.heap.size := by
  refine (copy_calls W g v base (rows l I n) n h.lt (by rw [rows_len]; omega)).mono ?_
  rintro e w' ⟨g', v', rfl, hlt, hf', hg'⟩
  refine ⟨g', v', rfl, h.stay hf', ⟨hlt, fun k hk => ?_⟩, hf', hg', h.lt.sa_lt⟩
  rcases hk with rfl | hk
  · exact Nat.le_trans hf.size hg'
  · exact Nat.le_trans hf.size (hlt.own.base_le hk)
/-- the copy stays what it was. -/
theorem TT.keep {W' : World} {g g' : Nat} {v v' : Value} {B n : Nat} (h : TT w W g' v' B l I n) (hf : Fr (SA g v) W W') (hg' : B ≤ g') (hd : ∀ k, SA g v k → k < B) : TT w W' g' v' B l I n :=
  ⟨h.lt.fr hf (fun e => by have := hd _ e; omega) (fun k hk e => by have h1 := hd _ e; have h2 := h.lt.own.base_le hk; omega), h.fresh⟩
/-- what a name's questions are answered. -/
theorem TT.ask {g : Nat} {v : Value} {base n : Nat} (h : TT w W g v base l I n) (hn : 1 ≤ n) (hn2 : n ≤ 20) (hl : l.length ≤ 20) (hI : I.length ≤ 60) (i j : Nat) (hj : ofR (rows l I n) (l.getD i z76).f0 = rowN (l.getD j z76) (cN I (l.getD i z76).f0 I.length) n) (r : Nat) (hr : md (cN I (l.getD i z76).f0 I.length) 1 = some r) :
    Calls Try.prog 60 #[.pointer (some ⟨g, 0, none⟩), .string (l.getD i z76).f0] W (fun e w' => e = .returned (.int .i64 (sumN (l.getD j z76).f4 (n * cN I (l.getD i z76).f0 I.length) 0)) ∧ Fr no W w') ∧
    Calls Try.prog 62 #[.pointer (some ⟨g, 0, none⟩), .string (l.getD i z76).f0] W (fun e w' => e = .returned (.int .i64 (cN I (l.getD i z76).f0 I.length : Nat)) ∧ Fr no W w') ∧
    Calls Try.prog 64 #[.pointer (some ⟨g, 0, none⟩), .string (l.getD i z76).f0] W (fun e w' => e = .returned (.float .f64 r) ∧ Fr no W w') := by
  have hlr : (rows l I n).length ≤ 1000000 := by rw [rows_len]; omega
  have hcn := cN_le I (l.getD i z76).f0 I.length
  refine ⟨?_, ?_, ?_⟩
  · have := sum_calls W g v base (rows l I n) n (l.getD i z76).f0 h.lt hlr
    rw [hj] at this
    exact this
  · have := peak_calls W g v base (rows l I n) n (l.getD i z76).f0 h.lt hlr
    rw [hj] at this
    have e : (rowN (l.getD j z76) (cN I (l.getD i z76).f0 I.length) n).peak = (cN I (l.getD i z76).f0 I.length : Nat) := if_neg (by omega)
    rw [e] at this
    exact this
  · exact mean_calls W g v base (rows l I n) n (l.getD i z76).f0 h.lt hlr hn (n * cN I (l.getD i z76).f0 I.length) r (by rw [hj]; rfl) (by rw [md_same hn hn2 (by omega)]; exact hr)
/-- both tables. -/
structure TB (w W : World) (g g' : Nat) (v v' : Value) (base B : Nat) (l : List S76) (I : List S135) (n : Nat) : Prop where
  tt : TT w W g v base l I n
  tc : TT w W g' v' B l I 1
  fr : Fr no w W
theorem TB.stay {W' : World} {g g' : Nat} {v v' : Value} {base B n : Nat} (h : TB w W g g' v v' base B l I n) (hf : Fr no W W') : TB w W' g g' v v' base B l I n :=
  ⟨h.tt.stay hf, h.tc.stay hf, h.fr.then_ hf (fun _ h => .inl h)⟩
/-- a name's questions, to both tables at once. -/
theorem both_ask {g g' : Nat} {v v' : Value} {base B n : Nat} (hne : g ≠ g') (hg : groupsB l = true) (hn : 1 ≤ n) (hn2 : n ≤ 20) (hl : l.length ≤ 20) (hI : I.length ≤ 60) (i : Nat) (hi : i < l.length) :
    ∃ (sp : Nat → Int) (c : Nat) (r : Nat), min ((n : Int) * sp g') 1125899906842624 = sp g ∧ (0 ≤ sp g' ∧ sp g' ≤ 1125899906842624) ∧ FloatKind.f64.format.order r r = some .eq ∧
      ∀ W, TB w W g g' v v' base B l I n → ∀ p, (p = g ∨ p = g') →
        Calls Try.prog 60 #[.pointer (some ⟨p, 0, none⟩), .string (l.getD i z76).f0] W (fun e w' => e = .returned (.int .i64 (sp p)) ∧ Fr no W w') ∧
        Calls Try.prog 62 #[.pointer (some ⟨p, 0, none⟩), .string (l.getD i z76).f0] W (fun e w' => e = .returned (.int .i64 (c : Nat)) ∧ Fr no W w') ∧
        Calls Try.prog 64 #[.pointer (some ⟨p, 0, none⟩), .string (l.getD i z76).f0] W (fun e w' => e = .returned (.float .f64 r) ∧ Fr no W w') := by
  obtain ⟨j, hj1, hj⟩ := ofR_rows l I i hi
  have hcn := cN_le I (l.getD i z76).f0 I.length
  obtain ⟨r, hr, ho⟩ := md_some (a := cN I (l.getD i z76).f0 I.length) (n := 1) (by omega) (by omega) (by omega)
  have hp := price_of hg j hj1
  obtain ⟨sp, hsp⟩ : ∃ sp : Nat → Int, ∀ p, sp p = if p = g then sumN (l.getD j z76).f4 (n * cN I (l.getD i z76).f0 I.length) 0 else sumN (l.getD j z76).f4 (1 * cN I (l.getD i z76).f0 I.length) 0 := ⟨_, fun _ => rfl⟩
  have e1 : sp g = sumN (l.getD j z76).f4 (n * cN I (l.getD i z76).f0 I.length) 0 := by rw [hsp, if_pos rfl]
  have e2 : sp g' = sumN (l.getD j z76).f4 (1 * cN I (l.getD i z76).f0 I.length) 0 := by rw [hsp, if_neg (fun e => hne e.symm)]
  refine ⟨sp, cN I (l.getD i z76).f0 I.length, r, ?_, ?_, ho, ?_⟩
  · rw [e1, e2]
    exact sum_same hp.1 hn
  · rw [e2]
    exact sumN_bd hp.1 (by omega) _
  · rintro W hW p (rfl | rfl)
    · rw [e1]
      exact hW.tt.ask hn hn2 hl hI i j (hj n) r hr
    · rw [e2]
      exact hW.tc.ask (by omega) (by omega) hl hI i j (hj 1) r hr
end
end Go.Proofs.Ytdpchfifaidamaa.L
