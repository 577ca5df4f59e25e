/- The walks of labels.Right, of the words that may be empty, of res.Right. No condition. -/
import Derived.Test.YtdpchfifaidamaaU3
import Derived.Deep.RegionHeld3
import Derived.Deep.DeepCutAuto
import Derived.Deep.CutRange
import Derived.Deep.CutBlock
import Derived.IntWalk
namespace Go.Proofs.Ytdpchfifaidamaa.U
open Go.RowKit Go.Maps Go.Proofs.YtdpchfifaidamaaW.PrintWords Go.Proofs.YtdpchfifaidamaaW.PrintLast Go.Proofs.Ytdpchfifaidamaa.B Go.Proofs.Ytdpchfifaidamaa.PLedgerTells
set_option linter.unusedVariables false
set_option linter.unusedSimpArgs false

/-- what has come up in a region: the first i of n. -/
def lt_ (i n : Nat) : Array Bool := (List.replicate i true ++ List.replicate (n - i) false).toArray
theorem maybe_yes {s : ByteArray} (h : s.toList = []) : maybeB s = true := by unfold maybeB; rw [h]; rfl
theorem maybe_no {s : ByteArray} (h : s.toList ≠ []) : maybeB s = wordB s := by
  unfold maybeB
  have : s.toList.isEmpty = false := by simpa using h
  rw [this, Bool.false_or]
theorem lmaybe_calls (s : ByteArray) (w : World) (hs : s.size ≤ 4611686018427387904) : Calls Try.prog 111 #[.string s] w fun e w' => e = .returned (.bool (maybeB s)) ∧ Fr no w w' := by
  by_cases h : s.toList = []
  · have HM := Aside0.mk (maybe_yes h)
    go_enter Try.func111, Try.ntmps111
    go_wp2
    go_ret
    exact ⟨by rw [HM.out]; rfl, Fr.refl _ _⟩
  · have HM := Aside0.mk (maybe_no h)
    have HS := Aside0.mk hs
    have hd : s.toList.isEmpty = false := by simpa using h
    clear h hs
    go_enter Try.func111, Try.ntmps111
    go_wp2_with (go_at_call 110; refine (word_calls s _ HS.out).mono ?_; rintro e w1 ⟨rfl, hf⟩; have HF := Aside0.mk hf; clear hf)
    go_ret
    exact ⟨by rw [HM.out]; rfl, HF.out⟩
theorem smaybe_calls (s : ByteArray) (w : World) (hs : s.size ≤ 4611686018427387904) : Calls Try.prog 148 #[.string s] w fun e w' => e = .returned (.bool (maybeB s)) ∧ Fr no w w' := by
  by_cases h : s.toList = []
  · have HM := Aside0.mk (maybe_yes h)
    go_enter Try.func148, Try.ntmps148
    go_wp2
    go_ret
    exact ⟨by rw [HM.out]; rfl, Fr.refl _ _⟩
  · have HM := Aside0.mk (maybe_no h)
    have HS := Aside0.mk hs
    have hd : s.toList.isEmpty = false := by simpa using h
    clear h hs
    go_enter Try.func148, Try.ntmps148
    go_wp2_with (go_at_call 110; refine (word_calls s _ HS.out).mono ?_; rintro e w1 ⟨rfl, hf⟩; have HF := Aside0.mk hf; clear hf)
    go_ret
    exact ⟨by rw [HM.out]; rfl, HF.out⟩
theorem tmaybe_calls (s : ByteArray) (w : World) (hs : s.size ≤ 4611686018427387904) : Calls Try.prog 155 #[.string s] w fun e w' => e = .returned (.bool (maybeB s)) ∧ Fr no w w' := by
  by_cases h : s.toList = []
  · have HM := Aside0.mk (maybe_yes h)
    go_enter Try.func155, Try.ntmps155
    go_wp2
    go_ret
    exact ⟨by rw [HM.out]; rfl, Fr.refl _ _⟩
  · have HM := Aside0.mk (maybe_no h)
    have HS := Aside0.mk hs
    have hd : s.toList.isEmpty = false := by simpa using h
    clear h hs
    go_enter Try.func155, Try.ntmps155
    go_wp2_with (go_at_call 110; refine (word_calls s _ HS.out).mono ?_; rintro e w1 ⟨rfl, hf⟩; have HF := Aside0.mk hf; clear hf)
    go_ret
    exact ⟨by rw [HM.out]; rfl, HF.out⟩

/-! ### labels.Right -/
def keyAt (l : List S83) (i : Nat) : ByteArray := (l.getD i z83).f0
/-- how often a key stands among the first ones: none or once. -/
def cnt1 (l : List S83) (i : Nat) : ByteArray → Option Int := fun s => if ∃ j, j < i ∧ keyAt l j = s then some 1 else none
theorem cnt1_zero (l : List S83) : ∀ s, cnt1 l 0 s = none := by intro s; unfold cnt1; rw [if_neg]; rintro ⟨j, hj, _⟩; omega
theorem cnt1_some {l : List S83} {i : Nat} {s : ByteArray} (h : ∃ j, j < i ∧ keyAt l j = s) : cnt1 l i s = some 1 := if_pos h
theorem cnt1_none {l : List S83} {i : Nat} {s : ByteArray} (h : ¬ ∃ j, j < i ∧ keyAt l j = s) : cnt1 l i s = none := if_neg h
theorem cnt1_succ {l : List S83} {i : Nat} (s : ByteArray) : upd (cnt1 l i) (keyAt l i) 1 s = cnt1 l (i + 1) s := by
  unfold upd
  by_cases h : s = keyAt l i
  · rw [if_pos h, cnt1_some ⟨i, by omega, h.symm⟩]
  · rw [if_neg h]
    by_cases h2 : ∃ j, j < i ∧ keyAt l j = s
    · rw [cnt1_some h2]
      obtain ⟨j, hj, e⟩ := h2
      rw [cnt1_some ⟨j, by omega, e⟩]
    · rw [cnt1_none h2, cnt1_none]
      rintro ⟨j, hj, e⟩
      rcases Nat.lt_or_ge j i with h3 | h3
      · exact h2 ⟨j, h3, e⟩
      · obtain rfl : j = i := by omega
        exact h e.symm
theorem bl_eq : ∀ (x y : List UInt8), Op.bytesLess x y = decide (x < y)
  | [], [] => by simp [Op.bytesLess]
  | _ :: _, [] => by simp [Op.bytesLess]
  | [], _ :: _ => by simp [Op.bytesLess]
  | a :: x, b :: y => by
    rw [Op.bytesLess, bl_eq x y]
    simp only [List.cons_lt_cons_iff]
    by_cases h1 : a < b <;> by_cases h2 : a = b <;> by_cases h3 : x < y <;> simp [h1, h2, h3]
theorem lt_irr (a : ByteArray) : ltS a a = false := by unfold ltS; rw [bl_eq]; simp [List.lt_irrefl]
theorem lt_tr {a b c : ByteArray} (h1 : ltS a b = true) (h2 : ltS b c = true) : ltS a c = true := by
  unfold ltS at *
  rw [bl_eq] at *
  simp only [decide_eq_true_eq] at *
  exact List.lt_trans h1 h2
theorem lt_tot {a b : ByteArray} (h : ltS a b = false) (hne : a ≠ b) : ltS b a = true := by
  unfold ltS at *
  rw [bl_eq] at *
  simp only [decide_eq_false_iff_not, decide_eq_true_eq] at *
  rcases List.le_iff_lt_or_eq.1 (List.not_lt.1 h) with h | h
  · exact h
  · exact absurd (toList_eq.1 h).symm hne
/-- what is in order so far is strictly so: a key that stands behind stands behind all. -/
theorem sorted_lt {l : List S83} {n : Nat} (h : allF (lab1 l) n 0 = true) : ∀ i j, i < j → j < n → ltS (keyAt l i) (keyAt l j) = true := by
  have st : ∀ j, 0 < j → j < n → ltS (keyAt l (j - 1)) (keyAt l j) = true := by
    intro j h0 hj
    have := (allF_iff.1 h) j (by omega) (by omega)
    unfold lab1 at this
    simp only [Bool.and_eq_true, Bool.or_eq_true, decide_eq_true_eq] at this
    exact this.2.2.resolve_left (by omega)
  intro i j hij
  induction j with
  | zero => omega
  | succ j ih =>
    intro hj
    have h1 := st (j + 1) (by omega) hj
    rcases Nat.lt_or_ge i j with h2 | h2
    · exact lt_tr (ih h2 (by omega)) h1
    · obtain rfl : i = j := by omega
      exact h1
/-- the last test: not there before, and not ahead of the one before, is the reference's. -/
theorem lab_last {l : List S83} {i : Nat} (h : allF (lab1 l) i 0 = true) : (decide (i = 0) || ltS (keyAt l (i - 1)) (keyAt l i)) = (!decide (∃ j, j < i ∧ keyAt l j = keyAt l i) && (decide (i = 0) || !ltS (keyAt l i) (keyAt l (i - 1)))) := by
  by_cases h0 : i = 0
  · subst h0
    simp
  · simp only [decide_eq_false h0, Bool.false_or]
    cases hlt : ltS (keyAt l (i - 1)) (keyAt l i) with
    | true =>
      symm
      rw [Bool.and_eq_true]
      constructor
      · simp only [Bool.not_eq_true', decide_eq_false_iff_not]
        rintro ⟨j, hj, e⟩
        have h1 : ltS (keyAt l j) (keyAt l i) = true := by
          rcases Nat.lt_or_ge j (i - 1) with h2 | h2
          · exact lt_tr (sorted_lt h j (i - 1) h2 (by omega)) hlt
          · obtain rfl : j = i - 1 := by omega
            exact hlt
        rw [e, lt_irr] at h1
        cases h1
      · cases h2 : ltS (keyAt l i) (keyAt l (i - 1)) with
        | false => rfl
        | true => have := lt_tr hlt h2; rw [lt_irr] at this; cases this
    | false =>
      symm
      by_cases he : keyAt l (i - 1) = keyAt l i
      · rw [decide_eq_true ⟨i - 1, by omega, he⟩]
        rfl
      · rw [lt_tot hlt he, Bool.not_true, Bool.and_false]
theorem lab_all {l : List S83} {i : Nat} (h : allF (lab1 l) i 0 = true) : lab1 l i = (!decide (∃ j, j < i ∧ keyAt l j = keyAt l i) && (wordB (l.getD i z83).f0 && (maybeB (l.getD i z83).f1 && (decide (i = 0) || !ltS (keyAt l i) (keyAt l (i - 1)))))) := by
  unfold lab1
  rw [show (decide (i = 0) || ltS (l.getD (i - 1) z83).f0 (l.getD i z83).f0) = _ from lab_last h]
  cases wordB (l.getD i z83).f0 <;> cases maybeB (l.getD i z83).f1 <;> cases (!decide (∃ j, j < i ∧ keyAt l j = keyAt l i)) <;> rfl
theorem allF_succ {p : Nat → Bool} {n : Nat} (h : allF p n 0 = true) (hp : p n = true) : allF p (n + 1) 0 = true := by
  rw [allF_iff] at *
  intro j h1 h2
  rcases Nat.lt_or_ge j n with h3 | h3
  · exact h j h1 (by omega)
  · obtain rfl : j = n := by omega
    exact hp
theorem allF_no {p : Nat → Bool} {n i : Nat} (hi : i < n) (hp : p i = false) : allF p n 0 = false := by
  cases h : allF p n 0 with
  | false => rfl
  | true => rw [(allF_iff.1 h) i (by omega) (by omega)] at hp; cases hp
theorem labels_no {l : List S83} {i : Nat} (hi : i < l.length) (hp : lab1 l i = false) : labelsB l = false := by
  unfold labelsB
  rw [allF_no hi hp, Bool.and_false]
theorem labels_end {l : List S83} (h : allF (lab1 l) l.length 0 = true) : labelsB l = decide (l.length ≤ 16) := by
  unfold labelsB
  rw [h, Bool.and_true]
structure LR (w wr : World) (b : Nat) (l : List S83) (i : Nat) : Prop where
  map : MapIs wr b i (cnt1 l i)
  fr : Fr (fun k => k = b) w wr
  ok : allF (lab1 l) i 0 = true

set_option maxRecDepth 100000 in
set_option maxHeartbeats 4000000 in
theorem labels_calls (w : World) (A : Option Addr) (c : Nat) (l : List S83) (hr : Kd.C k83 w A l.length l) (hc : l.length ≤ c) (hl : l.length ≤ 1000000) (hk : OkL l) :
    Calls Try.prog 73 #[.slice A l.length c] w fun e w' => e = .returned (.bool (labelsB l)) ∧ Fr no w w' := by
  have HR := Aside0.mk hr
  have HK := Aside0.mk hk
  have hmm := @run_makeMap Try.prog
  have HLEN := Aside0.mk hl
  clear hr hk hc
  go_enter Try.func73, Try.ntmps73
  go_wp2
  go_loopw [4, 5, 9] (fun v4 v5 v9 wr => ∃ i : Nat, i ≤ l.length ∧ v9 = .int .i64 i ∧ Aside0 (LR w wr w.heap.size l i)) (fun _ _ v9 _ => l.length - (intOf v9).toNat)
  case atStart => exact ⟨0, by omega, rfl, ⟨⟨(MapIs.made w).congr (fun s _ => (cnt1_zero l s).symm), ((Fr.refl w _).alloc _), rfl⟩⟩⟩
  case round =>
    obtain ⟨i, hi, rfl, HI⟩ := hrel
    by_cases hlt : i < l.length
    · obtain ⟨ad, e, hc0, hc1⟩ := at_T83 HR.out (i : Int) (by omega) (by omega)
      cases e
      rw [Int.toNat_natCast] at hc0 hc1
      have e0 : rd_T83 l (i : Int) = l.getD i z83 := by unfold rd_T83; simp
      rw [e0] at hc0 hc1
      obtain ⟨key, hkey⟩ : ∃ key, key = (l.getD i z83).f0 := ⟨_, rfl⟩
      obtain ⟨val, hval⟩ : ∃ val, val = (l.getD i z83).f1 := ⟨_, rfl⟩
      rw [← hkey] at hc0
      rw [← hval] at hc1
      have hlt0 := World.block_lt_of_cell? _ _ hc0
      have hd0 := cell_fr hc0 HI.out.fr (by omega)
      have hd1 := cell_fr hc1 HI.out.fr (by show ¬ (ad.add (i * 2)).block = _; omega)
      have HKEY := Aside0.mk hkey
      have HVAL := Aside0.mk hval
      have hks : key.size ≤ maxLen := by rw [hkey]; have := HK.out.key i; simp only [maxLen]; omega
      have HKS := Aside0.mk hks
      obtain ⟨bx, hbx⟩ : ∃ bx, bx = wr.heap.size := ⟨_, rfl⟩
      have HBX := Aside0.mk hbx
      have hba := heap_alloc_new wr (.cells #[.string key, .string val] 83)
      rw [← hbx] at hba
      have HBA := Aside0.mk hba
      have HMA := Aside0.mk (HI.out.map.alloc (.cells #[.string key, .string val] 83))
      have hne : bx ≠ w.heap.size := by have := HI.out.map.lt; omega
      have HNE := Aside0.mk hne
      obtain ⟨pk, hpk⟩ : ∃ pk, pk = keyAt l (i - 1) := ⟨_, rfl⟩
      have hcp : w.cell? (ad.add ((i - 1) * 2)) = some (.string pk) := by
        obtain ⟨ad', e', hq0, _⟩ := at_T83 HR.out ((i - 1 : Nat) : Int) (by omega) (by omega)
        cases e'
        rw [Int.toNat_natCast] at hq0
        rw [hq0, hpk]
        unfold rd_T83 keyAt
        simp
      have hltp := World.block_lt_of_cell? _ _ hcp
      have hdp := cell_fr hcp HI.out.fr (by show ¬ (ad.add ((i - 1) * 2)).block = _; omega)
      have HPK := Aside0.mk hpk
      have HDP := Aside0.mk hdp
      have HKB := Aside0.mk (show key.size ≤ 4611686018427387904 from hkey ▸ HK.out.key i)
      have HVB := Aside0.mk (show val.size ≤ 4611686018427387904 from hval ▸ HK.out.val i)
      have HALL := Aside0.mk (show lab1 l i = (!decide (∃ j, j < i ∧ keyAt l j = key) && (wordB key && (maybeB val && (decide (i = 0) || !ltS key pk)))) from by rw [hkey, hval, hpk]; exact lab_all HI.out.ok)
      have HPI := Aside0.mk (show 0 < i → (∃ j, j < i ∧ keyAt l j = pk) from fun h => ⟨i - 1, by omega, hpk.symm⟩)
      clear hc0 hc1 e0 hkey hval hlt0 hks hbx hba hne hpk hdp
      have HCP := Aside0.mk hcp
      have HLTP := Aside0.mk hltp
      clear hcp hltp
      obtain ⟨cv, hcv⟩ : ∃ cv, cv = (cnt1 l i key).getD 0 + 1 := ⟨_, rfl⟩
      have HCV := Aside0.mk hcv
      have HCV2 := Aside0.mk (show (cv = 1 ∧ ¬ (∃ j, j < i ∧ keyAt l j = key)) ∨ (cv = 2 ∧ ∃ j, j < i ∧ keyAt l j = key) from by
        by_cases hin : ∃ j, j < i ∧ keyAt l j = key
        · right; rw [cnt1_some hin] at hcv; exact ⟨by simpa using hcv, hin⟩
        · left; rw [cnt1_none hin] at hcv; exact ⟨by simpa using hcv, hin⟩)
      have hcb : 1 ≤ cv ∧ cv ≤ 2 := by rcases HCV2.out with h | h <;> omega
      have hgb : 0 ≤ (cnt1 l i key).getD 0 ∧ (cnt1 l i key).getD 0 ≤ 1 := by omega
      obtain ⟨gv, hgv⟩ : ∃ gv, gv = (cnt1 l i key).getD 0 := ⟨_, rfl⟩
      have HGV := Aside0.mk hgv
      rw [← hgv] at hgb hcv
      obtain ⟨hgb0, hgb1⟩ := hgb
      have HCW := Aside0.mk (show (Lit.int .i64 cv).wf = true from by rcases HCV2.out with h | h <;> rw [h.1] <;> rfl)
      have HCG := Aside0.mk hcv
      clear hcb hcv hgv
      go_upto_region 6 with (first
        | (at_lookup; refine wpL_lookup rfl _ _ rfl rfl HMA.out key rfl HKS.out ?_; rw [← HGV.out])
        | (at_mapUpdate; refine wpL_update rfl _ _ _ rfl rfl HMA.out (by have := HLEN.out; simp only [maxLen]; omega) key rfl HKS.out (gv + 1) rfl (HCG.out ▸ HCW.out) ?_; intro w2 hm2 hf2 _; have HM2 := Aside0.mk hm2; have HF2 := Aside0.mk hf2; clear hm2 hf2))
      rw [← HBX.out]
      rw [← HCG.out] at HM2
      clear hgb0 hgb1 HGV HCG
      have hb2 := blk_fr HBA.out HF2.out HNE.out
      have hx0 : w2.cell? ⟨bx, 0, none⟩ = some (.string key) := (blk_cell hb2 0).trans rfl
      have hx1 : w2.cell? ⟨bx, 1, none⟩ = some (.string val) := (blk_cell hb2 1).trans rfl
      have HFW := Aside0.mk (show Fr (fun k => k = w.heap.size) w w2 from (HI.out.fr.then_ ((Fr.refl wr no).alloc _) (fun _ h => h.elim)).then_ HF2.out (fun _ h => .inl h))
      have HX0 := Aside0.mk hx0
      have HX1 := Aside0.mk hx1
      have HXP := Aside0.mk (cell_fr HCP.out HFW.out (by have := HLTP.out; show ¬ (ad.add ((i - 1) * 2)).block = _; omega))
      have HLK := Aside0.mk (show ∀ W, Fr no w2 W → (Instr.lookup 65 (.map (some w.heap.size)) (.string key) false).run Try.prog W = .ok (.int .i64 cv) W from fun W h => by
        have := lookup_run (HM2.out.fr h (fun h => h)) key HKS.out
        rw [show upd (cnt1 l i) key cv key = some cv from by unfold upd; rw [if_pos rfl]] at this
        exact this)
      have HGO := Aside0.mk (show ∀ W, Fr no w2 W → Fr no w W from fun W h => Fr.of_below ((HFW.out.then_ h (fun _ h => h.elim)).to_below (fun k hk => by rw [hk]; exact Nat.le_refl _)) _)
      clear hb2
      have hix1 : (i : Int) - 1 < l.length := by omega
      have hwr : IntKind.i64.wrap ((i : Int) - 1) = i - 1 := (i64_w _).trans (w64 (by omega) (by omega))
      have HA := Aside0.mk (Fr.refl w2 no).drew
      have HE : Aside0 ((lab1 l i = false ∧ ((decide (1 < cv) = true) ∨ (decide (1 < cv) = false ∧ wordB key = false) ∨ (decide (1 < cv) = false ∧ wordB key = true ∧ maybeB val = false) ∨ (decide (1 < cv) = false ∧ wordB key = true ∧ maybeB val = true ∧ 1 ≤ i ∧ Op.bytesLess pk.toList key.toList = false ∧ (pk.toList == key.toList) = false)))
          ∨ (lab1 l i = true ∧ cv = 1 ∧ ((wordB key = true ∧ maybeB val = true ∧ i = 0) ∨ (wordB key = true ∧ maybeB val = true ∧ 1 ≤ i ∧ Op.bytesLess pk.toList key.toList = true ∧ (pk.toList == key.toList) = false)))) := by
        refine ⟨?_⟩
        have hall := HALL.out
        rcases HCV2.out with ⟨h1, h2⟩ | ⟨h1, h2⟩
        · have hd1 : decide (1 < cv) = false := decide_eq_false (by omega)
          rw [decide_eq_false h2, Bool.not_false, Bool.true_and] at hall
          cases hw : wordB key with
          | false => exact .inl ⟨by rw [hall, hw]; rfl, .inr (.inl ⟨hd1, rfl⟩)⟩
          | true =>
            rw [hw, Bool.true_and] at hall
            cases hm : maybeB val with
            | false => exact .inl ⟨by rw [hall, hm]; rfl, .inr (.inr (.inl ⟨hd1, rfl, rfl⟩))⟩
            | true =>
              rw [hm, Bool.true_and] at hall
              by_cases h0 : i = 0
              · exact .inr ⟨by rw [hall, decide_eq_true h0]; rfl, h1, .inl ⟨rfl, rfl, h0⟩⟩
              · rw [decide_eq_false h0, Bool.false_or] at hall
                have hneq : pk ≠ key := fun e => h2 (e ▸ HPI.out (by omega))
                have hbe : (pk.toList == key.toList) = false := by simpa using fun e => hneq (toList_eq.1 e)
                cases hbl : ltS key pk with
                | true =>
                  refine .inl ⟨by rw [hall, hbl]; rfl, .inr (.inr (.inr ⟨hd1, rfl, rfl, by omega, ?_, hbe⟩))⟩
                  cases h : Op.bytesLess pk.toList key.toList with
                  | false => rfl
                  | true => have := lt_tr hbl (show ltS pk key = true from h); rw [lt_irr] at this; cases this
                | false => exact .inr ⟨by rw [hall, hbl]; rfl, h1, .inr ⟨rfl, rfl, by omega, lt_tot hbl (fun e => hneq e.symm), hbe⟩⟩
        · exact .inl ⟨by rw [hall, decide_eq_true h2]; rfl, .inl (decide_eq_true (by omega))⟩
      clear HALL HPI HPK HCV HCV2 HCP HLTP
      rcases HE.out with ⟨hno, hc⟩ | ⟨hok, hc1, hc⟩
      · have HNO := Aside0.mk hno
        clear hno HE
        rcases hc with hcd | ⟨hcd, hw⟩ | ⟨hcd, hw, hm⟩ | ⟨hcd, hw, hm, h1, hbl, hbe⟩
        case' inl => have HW := Aside0.mk (rfl : wordB key = wordB key); have HM := Aside0.mk (rfl : maybeB val = maybeB val)
        case' inr.inl => have HW := Aside0.mk hw; have HM := Aside0.mk (rfl : maybeB val = maybeB val); clear hw
        case' inr.inr.inl => have HW := Aside0.mk hw; have HM := Aside0.mk hm; clear hw hm
        case' inr.inr.inr => have HW := Aside0.mk hw; have HM := Aside0.mk hm; have hd0 : decide (0 < i) = true := decide_eq_true (by omega); have h1' : (1 : Int) ≤ i := (by omega); have hix0 : (0 : Int) ≤ (i : Int) - 1 := (by omega); have htn : ((i : Int) - 1).toNat = i - 1 := (by omega); clear hw hm
        all_goals refine start_ (n := 32) (ds := []) (S := (fun W => W.cell? ⟨bx, 0, none⟩ = some (.string key) ∧ W.cell? ⟨bx, 1, none⟩ = some (.string val) ∧ (Instr.lookup 65 (.map (some w.heap.size)) (.string key) false).run Try.prog W = .ok (.int .i64 cv) W ∧ W.cell? (ad.add ((i - 1) * 2)) = some (.string pk))) (lt_ 0 32) (by kernel_rfl) rfl (by kernel_rfl) ⟨HX0.out, HX1.out, HLK.out _ (Fr.refl w2 no).drew, HXP.out⟩ (fun hHeld => ?_)
        all_goals (refine pure_ (i := 0) (N := (some 19)) (v := ?_) (a' := ?_) (lt_ 1 32) rfl rfl (by kernel_rfl) (fun _ _ _ h => h) (Or.inl ⟨by rfl, ?_⟩) ?_ ?_; rotate_left; (intro w'; go_simp; try with_reducible rfl); rotate_left; (simp only [Act.put, List.setIfInBounds_toArray, List.set_cons_zero, List.set_cons_succ, i64_w, i32_w]; rfl))
        all_goals (refine pure_ (i := 1) (N := (some 20)) (v := ?_) (a' := ?_) (lt_ 2 32) rfl rfl (by kernel_rfl) (fun _ _ _ h => h) (Or.inl ⟨by rfl, ?_⟩) ?_ ?_; rotate_left; (intro w'; go_simp; try with_reducible rfl); rotate_left; (simp only [Act.put, List.setIfInBounds_toArray, List.set_cons_zero, List.set_cons_succ, i64_w, i32_w]; rfl))
        all_goals (refine take_ (i := 2) (N := (some 21)) (v := ?_) (a' := ?_) (lt_ 3 32) rfl rfl (by kernel_rfl) (fun _ _ _ h => h) (Or.inl ⟨by rfl, ?_⟩) hHeld ?_ ?_; rotate_left; (rintro w' ⟨s0, s1, s2, s3⟩; go_simp; try with_reducible rfl); rotate_left; (simp only [Act.put, List.setIfInBounds_toArray, List.set_cons_zero, List.set_cons_succ, i64_w, i32_w]; rfl))
        all_goals (refine take_ (i := 3) (N := (some 22)) (v := ?_) (a' := ?_) (lt_ 4 32) rfl rfl (by kernel_rfl) (fun _ _ _ h => h) (Or.inl ⟨by rfl, ?_⟩) hHeld ?_ ?_; rotate_left; (rintro w' ⟨s0, s1, s2, s3⟩; go_simp; try with_reducible rfl); rotate_left; (simp only [Act.put, List.setIfInBounds_toArray, List.set_cons_zero, List.set_cons_succ, i64_w, i32_w]; rfl))
        all_goals (refine pure_ (i := 4) (N := (some 23)) (v := ?_) (a' := ?_) (lt_ 5 32) rfl rfl (by kernel_rfl) (fun _ _ _ h => h) (Or.inl ⟨by rfl, ?_⟩) ?_ ?_; rotate_left; (intro w'; go_simp; try with_reducible rfl); rotate_left; (simp only [Act.put, List.setIfInBounds_toArray, List.set_cons_zero, List.set_cons_succ, i64_w, i32_w]; rfl))
        all_goals (refine pure_ (i := 5) (N := (some 24)) (v := ?_) (a' := ?_) (lt_ 6 32) rfl rfl (by kernel_rfl) (fun _ _ _ h => h) (Or.inl ⟨by rfl, ?_⟩) ?_ ?_; rotate_left; (intro w'; go_simp; try with_reducible rfl); rotate_left; (simp only [Act.put, List.setIfInBounds_toArray, List.set_cons_zero, List.set_cons_succ, i64_w, i32_w]; rfl))
        all_goals first | (refine pure_ (i := 6) (N := (some 25)) (v := undef) (a' := ?_) (lt_ 7 32) rfl rfl (by kernel_rfl) (fun _ _ _ h => h) (Or.inr ⟨by rfl, rfl⟩) ?_ ?_; rotate_left; (simp only [Act.put, List.setIfInBounds_toArray, List.set_cons_zero, List.set_cons_succ, i64_w, i32_w]; rfl)) | (refine pure_ (i := 6) (N := (some 25)) (v := ?_) (a' := ?_) (lt_ 7 32) rfl rfl (by kernel_rfl) (fun _ _ _ h => h) (Or.inl ⟨by rfl, ?_⟩) ?_ ?_; rotate_left; (intro w'; go_simp; try with_reducible rfl); rotate_left; (simp only [Act.put, List.setIfInBounds_toArray, List.set_cons_zero, List.set_cons_succ, i64_w, i32_w]; rfl))
        all_goals first | (refine pure_ (i := 7) (N := (some 26)) (v := undef) (a' := ?_) (lt_ 8 32) rfl rfl (by kernel_rfl) (fun _ _ _ h => h) (Or.inr ⟨by rfl, rfl⟩) ?_ ?_; rotate_left; (simp only [Act.put, List.setIfInBounds_toArray, List.set_cons_zero, List.set_cons_succ, i64_w, i32_w]; rfl)) | (refine take_ (i := 7) (N := (some 26)) (v := ?_) (a' := ?_) (lt_ 8 32) rfl rfl (by kernel_rfl) (fun _ _ _ h => h) (Or.inl ⟨by rfl, ?_⟩) hHeld ?_ ?_; rotate_left; (rintro w' ⟨s0, s1, s2, s3⟩; go_simp; try with_reducible rfl); rotate_left; (simp only [Act.put, List.setIfInBounds_toArray, List.set_cons_zero, List.set_cons_succ, i64_w, i32_w]; rfl))
        all_goals first | (refine pure_ (i := 8) (N := (some 27)) (v := undef) (a' := ?_) (lt_ 9 32) rfl rfl (by kernel_rfl) (fun _ _ _ h => h) (Or.inr ⟨by rfl, rfl⟩) ?_ ?_; rotate_left; (simp only [Act.put, List.setIfInBounds_toArray, List.set_cons_zero, List.set_cons_succ, i64_w, i32_w]; rfl)) | (refine one_ (i := 8) (N := (some 27)) (lt_ 9 32) rfl rfl (by kernel_rfl) (by decide) (fun K hK => ?_); refine goes_ Try.func110 (by kernel_rfl) rfl #[.string key] (by rfl) rfl rfl (by (try simp only [List.map_toArray, List.map_cons, List.map_nil]); first | done | rfl) ?_; refine (word_calls key _ HKB.out).mono ?_; rintro e w3 ⟨rfl, hf3⟩; rw [HW.out]; replace HA := Aside0.mk (HA.out.then_ hf3 (fun _ h => .inl h)); clear hf3; refine ⟨_, rfl, ?_⟩; clear hHeld; refine hK.out _ _ ⟨cell_fr HX0.out HA.out (fun h => h), cell_fr HX1.out HA.out (fun h => h), HLK.out _ HA.out, cell_fr HXP.out HA.out (fun h => h)⟩ (fun hHeld => ?_); clear hK K; refine norm_ (a' := ?_) ?_ ?_; rotate_left; (show Act.put _ (some 27) _ = _; simp only [Act.put, List.setIfInBounds_toArray, List.set_cons_zero, List.set_cons_succ, i64_w, i32_w]; rfl))
        all_goals first | (refine pure_ (i := 9) (N := (some 28)) (v := undef) (a' := ?_) (lt_ 10 32) rfl rfl (by kernel_rfl) (fun _ _ _ h => h) (Or.inr ⟨by rfl, rfl⟩) ?_ ?_; rotate_left; (simp only [Act.put, List.setIfInBounds_toArray, List.set_cons_zero, List.set_cons_succ, i64_w, i32_w]; rfl)) | (refine pure_ (i := 9) (N := (some 28)) (v := ?_) (a' := ?_) (lt_ 10 32) rfl rfl (by kernel_rfl) (fun _ _ _ h => h) (Or.inl ⟨by rfl, ?_⟩) ?_ ?_; rotate_left; (intro w'; go_simp; try with_reducible rfl); rotate_left; (simp only [Act.put, List.setIfInBounds_toArray, List.set_cons_zero, List.set_cons_succ, i64_w, i32_w]; rfl))
        all_goals (refine pure_ (i := 10) (N := (some 29)) (v := ?_) (a' := ?_) (lt_ 11 32) rfl rfl (by kernel_rfl) (fun _ _ _ h => h) (Or.inl ⟨by rfl, ?_⟩) ?_ ?_; rotate_left; (intro w'; go_simp; try with_reducible rfl); rotate_left; (simp only [Act.put, List.setIfInBounds_toArray, List.set_cons_zero, List.set_cons_succ, i64_w, i32_w]; rfl))
        all_goals (refine pure_ (i := 11) (N := (some 30)) (v := ?_) (a' := ?_) (lt_ 12 32) rfl rfl (by kernel_rfl) (fun _ _ _ h => h) (Or.inl ⟨by rfl, ?_⟩) ?_ ?_; rotate_left; (intro w'; go_simp; try with_reducible rfl); rotate_left; (simp only [Act.put, List.setIfInBounds_toArray, List.set_cons_zero, List.set_cons_succ, i64_w, i32_w]; rfl))
        all_goals first | (refine pure_ (i := 12) (N := (some 31)) (v := undef) (a' := ?_) (lt_ 13 32) rfl rfl (by kernel_rfl) (fun _ _ _ h => h) (Or.inr ⟨by rfl, rfl⟩) ?_ ?_; rotate_left; (simp only [Act.put, List.setIfInBounds_toArray, List.set_cons_zero, List.set_cons_succ, i64_w, i32_w]; rfl)) | (refine pure_ (i := 12) (N := (some 31)) (v := ?_) (a' := ?_) (lt_ 13 32) rfl rfl (by kernel_rfl) (fun _ _ _ h => h) (Or.inl ⟨by rfl, ?_⟩) ?_ ?_; rotate_left; (intro w'; go_simp; try with_reducible rfl); rotate_left; (simp only [Act.put, List.setIfInBounds_toArray, List.set_cons_zero, List.set_cons_succ, i64_w, i32_w]; rfl))
        all_goals first | (refine pure_ (i := 13) (N := (some 32)) (v := undef) (a' := ?_) (lt_ 14 32) rfl rfl (by kernel_rfl) (fun _ _ _ h => h) (Or.inr ⟨by rfl, rfl⟩) ?_ ?_; rotate_left; (simp only [Act.put, List.setIfInBounds_toArray, List.set_cons_zero, List.set_cons_succ, i64_w, i32_w]; rfl)) | (refine take_ (i := 13) (N := (some 32)) (v := ?_) (a' := ?_) (lt_ 14 32) rfl rfl (by kernel_rfl) (fun _ _ _ h => h) (Or.inl ⟨by rfl, ?_⟩) hHeld ?_ ?_; rotate_left; (rintro w' ⟨s0, s1, s2, s3⟩; go_simp; try with_reducible rfl); rotate_left; (simp only [Act.put, List.setIfInBounds_toArray, List.set_cons_zero, List.set_cons_succ, i64_w, i32_w]; rfl))
        all_goals first | (refine pure_ (i := 14) (N := (some 33)) (v := undef) (a' := ?_) (lt_ 15 32) rfl rfl (by kernel_rfl) (fun _ _ _ h => h) (Or.inr ⟨by rfl, rfl⟩) ?_ ?_; rotate_left; (simp only [Act.put, List.setIfInBounds_toArray, List.set_cons_zero, List.set_cons_succ, i64_w, i32_w]; rfl)) | (refine one_ (i := 14) (N := (some 33)) (lt_ 15 32) rfl rfl (by kernel_rfl) (by decide) (fun K hK => ?_); refine goes_ Try.func111 (by kernel_rfl) rfl #[.string val] (by rfl) rfl rfl (by (try simp only [List.map_toArray, List.map_cons, List.map_nil]); first | done | rfl) ?_; refine (lmaybe_calls val _ HVB.out).mono ?_; rintro e w4 ⟨rfl, hf4⟩; rw [HM.out]; replace HA := Aside0.mk (HA.out.then_ hf4 (fun _ h => .inl h)); clear hf4; refine ⟨_, rfl, ?_⟩; clear hHeld; refine hK.out _ _ ⟨cell_fr HX0.out HA.out (fun h => h), cell_fr HX1.out HA.out (fun h => h), HLK.out _ HA.out, cell_fr HXP.out HA.out (fun h => h)⟩ (fun hHeld => ?_); clear hK K; refine norm_ (a' := ?_) ?_ ?_; rotate_left; (show Act.put _ (some 33) _ = _; simp only [Act.put, List.setIfInBounds_toArray, List.set_cons_zero, List.set_cons_succ, i64_w, i32_w]; rfl))
        all_goals first | (refine pure_ (i := 15) (N := (some 34)) (v := undef) (a' := ?_) (lt_ 16 32) rfl rfl (by kernel_rfl) (fun _ _ _ h => h) (Or.inr ⟨by rfl, rfl⟩) ?_ ?_; rotate_left; (simp only [Act.put, List.setIfInBounds_toArray, List.set_cons_zero, List.set_cons_succ, i64_w, i32_w]; rfl)) | (refine pure_ (i := 15) (N := (some 34)) (v := ?_) (a' := ?_) (lt_ 16 32) rfl rfl (by kernel_rfl) (fun _ _ _ h => h) (Or.inl ⟨by rfl, ?_⟩) ?_ ?_; rotate_left; (intro w'; go_simp; try with_reducible rfl); rotate_left; (simp only [Act.put, List.setIfInBounds_toArray, List.set_cons_zero, List.set_cons_succ, i64_w, i32_w]; rfl))
        all_goals (refine pure_ (i := 16) (N := (some 35)) (v := ?_) (a' := ?_) (lt_ 17 32) rfl rfl (by kernel_rfl) (fun _ _ _ h => h) (Or.inl ⟨by rfl, ?_⟩) ?_ ?_; rotate_left; (intro w'; go_simp; try with_reducible rfl); rotate_left; (simp only [Act.put, List.setIfInBounds_toArray, List.set_cons_zero, List.set_cons_succ, i64_w, i32_w]; rfl))
        all_goals (refine pure_ (i := 17) (N := (some 36)) (v := ?_) (a' := ?_) (lt_ 18 32) rfl rfl (by kernel_rfl) (fun _ _ _ h => h) (Or.inl ⟨by rfl, ?_⟩) ?_ ?_; rotate_left; (intro w'; go_simp; try with_reducible rfl); rotate_left; (simp only [Act.put, List.setIfInBounds_toArray, List.set_cons_zero, List.set_cons_succ, i64_w, i32_w]; rfl))
        all_goals first | (refine pure_ (i := 18) (N := (some 37)) (v := undef) (a' := ?_) (lt_ 19 32) rfl rfl (by kernel_rfl) (fun _ _ _ h => h) (Or.inr ⟨by rfl, rfl⟩) ?_ ?_; rotate_left; (simp only [Act.put, List.setIfInBounds_toArray, List.set_cons_zero, List.set_cons_succ, i64_w, i32_w]; rfl)) | (refine pure_ (i := 18) (N := (some 37)) (v := ?_) (a' := ?_) (lt_ 19 32) rfl rfl (by kernel_rfl) (fun _ _ _ h => h) (Or.inl ⟨by rfl, ?_⟩) ?_ ?_; rotate_left; (intro w'; go_simp; try with_reducible rfl); rotate_left; (simp only [Act.put, List.setIfInBounds_toArray, List.set_cons_zero, List.set_cons_succ, i64_w, i32_w]; rfl))
        all_goals first | (refine pure_ (i := 19) (N := (some 38)) (v := undef) (a' := ?_) (lt_ 20 32) rfl rfl (by kernel_rfl) (fun _ _ _ h => h) (Or.inr ⟨by rfl, rfl⟩) ?_ ?_; rotate_left; (simp only [Act.put, List.setIfInBounds_toArray, List.set_cons_zero, List.set_cons_succ, i64_w, i32_w]; rfl)) | (refine pure_ (i := 19) (N := (some 38)) (v := ?_) (a' := ?_) (lt_ 20 32) rfl rfl (by kernel_rfl) (fun _ _ _ h => h) (Or.inl ⟨by rfl, ?_⟩) ?_ ?_; rotate_left; (intro w'; go_simp; try with_reducible rfl); rotate_left; (simp only [Act.put, List.setIfInBounds_toArray, List.set_cons_zero, List.set_cons_succ, i64_w, i32_w]; rfl))
        all_goals first | (refine pure_ (i := 20) (N := (some 39)) (v := undef) (a' := ?_) (lt_ 21 32) rfl rfl (by kernel_rfl) (fun _ _ _ h => h) (Or.inr ⟨by rfl, rfl⟩) ?_ ?_; rotate_left; (simp only [Act.put, List.setIfInBounds_toArray, List.set_cons_zero, List.set_cons_succ, i64_w, i32_w]; rfl)) | (refine pure_ (i := 20) (N := (some 39)) (v := ?_) (a' := ?_) (lt_ 21 32) rfl rfl (by kernel_rfl) (fun _ _ _ h => h) (Or.inl ⟨by rfl, ?_⟩) ?_ ?_; rotate_left; (intro w'; go_simp; try with_reducible rfl); rotate_left; (simp only [Act.put, List.setIfInBounds_toArray, List.set_cons_zero, List.set_cons_succ, i64_w, i32_w]; rfl))
        all_goals first | (refine pure_ (i := 21) (N := (some 40)) (v := undef) (a' := ?_) (lt_ 22 32) rfl rfl (by kernel_rfl) (fun _ _ _ h => h) (Or.inr ⟨by rfl, rfl⟩) ?_ ?_; rotate_left; (simp only [Act.put, List.setIfInBounds_toArray, List.set_cons_zero, List.set_cons_succ, i64_w, i32_w]; rfl)) | (refine pure_ (i := 21) (N := (some 40)) (v := ?_) (a' := ?_) (lt_ 22 32) rfl rfl (by kernel_rfl) (fun _ _ _ h => h) (Or.inl ⟨by rfl, ?_⟩) ?_ ?_; rotate_left; (intro w'; go_simp; try with_reducible rfl); rotate_left; (simp only [Act.put, List.setIfInBounds_toArray, List.set_cons_zero, List.set_cons_succ, i64_w, i32_w]; rfl))
        all_goals first | (refine pure_ (i := 22) (N := (some 41)) (v := undef) (a' := ?_) (lt_ 23 32) rfl rfl (by kernel_rfl) (fun _ _ _ h => h) (Or.inr ⟨by rfl, rfl⟩) ?_ ?_; rotate_left; (simp only [Act.put, List.setIfInBounds_toArray, List.set_cons_zero, List.set_cons_succ, i64_w, i32_w]; rfl)) | (refine pure_ (i := 22) (N := (some 41)) (v := ?_) (a' := ?_) (lt_ 23 32) rfl rfl (by kernel_rfl) (fun _ _ _ h => h) (Or.inl ⟨by rfl, ?_⟩) ?_ ?_; rotate_left; (intro w'; go_simp; try with_reducible rfl); rotate_left; (simp only [Act.put, List.setIfInBounds_toArray, List.set_cons_zero, List.set_cons_succ, i64_w, i32_w]; rfl))
        all_goals first | (refine pure_ (i := 23) (N := (some 42)) (v := undef) (a' := ?_) (lt_ 24 32) rfl rfl (by kernel_rfl) (fun _ _ _ h => h) (Or.inr ⟨by rfl, rfl⟩) ?_ ?_; rotate_left; (simp only [Act.put, List.setIfInBounds_toArray, List.set_cons_zero, List.set_cons_succ, i64_w, i32_w]; rfl)) | (refine pure_ (i := 23) (N := (some 42)) (v := ?_) (a' := ?_) (lt_ 24 32) rfl rfl (by kernel_rfl) (fun _ _ _ h => h) (Or.inl ⟨by rfl, ?_⟩) ?_ ?_; rotate_left; (intro w'; go_simp; try with_reducible rfl); rotate_left; (simp only [Act.put, List.setIfInBounds_toArray, List.set_cons_zero, List.set_cons_succ, i64_w, i32_w]; rfl))
        all_goals first | (refine pure_ (i := 24) (N := (some 43)) (v := undef) (a' := ?_) (lt_ 25 32) rfl rfl (by kernel_rfl) (fun _ _ _ h => h) (Or.inr ⟨by rfl, rfl⟩) ?_ ?_; rotate_left; (simp only [Act.put, List.setIfInBounds_toArray, List.set_cons_zero, List.set_cons_succ, i64_w, i32_w]; rfl)) | (refine pure_ (i := 24) (N := (some 43)) (v := ?_) (a' := ?_) (lt_ 25 32) rfl rfl (by kernel_rfl) (fun _ _ _ h => h) (Or.inl ⟨by rfl, ?_⟩) ?_ ?_; rotate_left; (intro w'; go_simp; try with_reducible rfl); rotate_left; (simp only [Act.put, List.setIfInBounds_toArray, List.set_cons_zero, List.set_cons_succ, i64_w, i32_w]; rfl))
        all_goals first | (refine pure_ (i := 25) (N := (some 44)) (v := undef) (a' := ?_) (lt_ 26 32) rfl rfl (by kernel_rfl) (fun _ _ _ h => h) (Or.inr ⟨by rfl, rfl⟩) ?_ ?_; rotate_left; (simp only [Act.put, List.setIfInBounds_toArray, List.set_cons_zero, List.set_cons_succ, i64_w, i32_w]; rfl)) | (refine pure_ (i := 25) (N := (some 44)) (v := ?_) (a' := ?_) (lt_ 26 32) rfl rfl (by kernel_rfl) (fun _ _ _ h => h) (Or.inl ⟨by rfl, ?_⟩) ?_ ?_; rotate_left; (intro w'; go_simp; try with_reducible rfl); rotate_left; (simp only [Act.put, List.setIfInBounds_toArray, List.set_cons_zero, List.set_cons_succ, i64_w, i32_w]; rfl))
        all_goals first | (refine pure_ (i := 26) (N := (some 45)) (v := undef) (a' := ?_) (lt_ 27 32) rfl rfl (by kernel_rfl) (fun _ _ _ h => h) (Or.inr ⟨by rfl, rfl⟩) ?_ ?_; rotate_left; (simp only [Act.put, List.setIfInBounds_toArray, List.set_cons_zero, List.set_cons_succ, i64_w, i32_w]; rfl)) | (refine take_ (i := 26) (N := (some 45)) (v := ?_) (a' := ?_) (lt_ 27 32) rfl rfl (by kernel_rfl) (fun _ _ _ h => h) (Or.inl ⟨by rfl, ?_⟩) hHeld ?_ ?_; rotate_left; (rintro w' ⟨s0, s1, s2, s3⟩; go_simp; try with_reducible rfl); rotate_left; (simp only [Act.put, List.setIfInBounds_toArray, List.set_cons_zero, List.set_cons_succ, i64_w, i32_w]; rfl))
        all_goals first | (refine pure_ (i := 27) (N := (some 46)) (v := undef) (a' := ?_) (lt_ 28 32) rfl rfl (by kernel_rfl) (fun _ _ _ h => h) (Or.inr ⟨by rfl, rfl⟩) ?_ ?_; rotate_left; (simp only [Act.put, List.setIfInBounds_toArray, List.set_cons_zero, List.set_cons_succ, i64_w, i32_w]; rfl)) | (refine pure_ (i := 27) (N := (some 46)) (v := ?_) (a' := ?_) (lt_ 28 32) rfl rfl (by kernel_rfl) (fun _ _ _ h => h) (Or.inl ⟨by rfl, ?_⟩) ?_ ?_; rotate_left; (intro w'; go_simp; try with_reducible rfl); rotate_left; (simp only [Act.put, List.setIfInBounds_toArray, List.set_cons_zero, List.set_cons_succ, i64_w, i32_w]; rfl))
        all_goals first | (refine pure_ (i := 28) (N := (some 47)) (v := undef) (a' := ?_) (lt_ 29 32) rfl rfl (by kernel_rfl) (fun _ _ _ h => h) (Or.inr ⟨by rfl, rfl⟩) ?_ ?_; rotate_left; (simp only [Act.put, List.setIfInBounds_toArray, List.set_cons_zero, List.set_cons_succ, i64_w, i32_w]; rfl)) | (refine take_ (i := 28) (N := (some 47)) (v := ?_) (a' := ?_) (lt_ 29 32) rfl rfl (by kernel_rfl) (fun _ _ _ h => h) (Or.inl ⟨by rfl, ?_⟩) hHeld ?_ ?_; rotate_left; (rintro w' ⟨s0, s1, s2, s3⟩; go_simp; try with_reducible rfl); rotate_left; (simp only [Act.put, List.setIfInBounds_toArray, List.set_cons_zero, List.set_cons_succ, i64_w, i32_w]; rfl))
        all_goals first | (refine pure_ (i := 29) (N := (some 48)) (v := undef) (a' := ?_) (lt_ 30 32) rfl rfl (by kernel_rfl) (fun _ _ _ h => h) (Or.inr ⟨by rfl, rfl⟩) ?_ ?_; rotate_left; (simp only [Act.put, List.setIfInBounds_toArray, List.set_cons_zero, List.set_cons_succ, i64_w, i32_w]; rfl)) | (refine pure_ (i := 29) (N := (some 48)) (v := ?_) (a' := ?_) (lt_ 30 32) rfl rfl (by kernel_rfl) (fun _ _ _ h => h) (Or.inl ⟨by rfl, ?_⟩) ?_ ?_; rotate_left; (intro w'; go_simp; try with_reducible rfl); rotate_left; (simp only [Act.put, List.setIfInBounds_toArray, List.set_cons_zero, List.set_cons_succ, i64_w, i32_w]; rfl))
        all_goals first | (refine pure_ (i := 30) (N := (some 49)) (v := undef) (a' := ?_) (lt_ 31 32) rfl rfl (by kernel_rfl) (fun _ _ _ h => h) (Or.inr ⟨by rfl, rfl⟩) ?_ ?_; rotate_left; (simp only [Act.put, List.setIfInBounds_toArray, List.set_cons_zero, List.set_cons_succ, i64_w, i32_w]; rfl)) | (refine pure_ (i := 30) (N := (some 49)) (v := ?_) (a' := ?_) (lt_ 31 32) rfl rfl (by kernel_rfl) (fun _ _ _ h => h) (Or.inl ⟨by rfl, ?_⟩) ?_ ?_; rotate_left; (intro w'; go_simp; try with_reducible rfl); rotate_left; (simp only [Act.put, List.setIfInBounds_toArray, List.set_cons_zero, List.set_cons_succ, i64_w, i32_w]; rfl))
        all_goals (refine pure_ (i := 31) (N := (some 50)) (v := ?_) (a' := ?_) (lt_ 32 32) rfl rfl (by kernel_rfl) (fun _ _ _ h => h) (Or.inl ⟨by rfl, ?_⟩) ?_ ?_; rotate_left; (intro w'; go_simp; try with_reducible rfl); rotate_left; (simp only [Act.put, List.setIfInBounds_toArray, List.set_cons_zero, List.set_cons_succ, i64_w, i32_w]; rfl))
        all_goals refine done_ (by kernel_rfl) ?_
        all_goals go_wp2_with fail
        all_goals go_ret
        all_goals exact ⟨by rw [labels_no hlt HNO.out]; rfl, HGO.out _ HA.out⟩
      · have HOK := Aside0.mk hok
        subst hc1
        clear hok HE
        rcases hc with ⟨hw, hm, h0⟩ | ⟨hw, hm, h1, hbl, hbe⟩
        case' inl => have HW := Aside0.mk hw; have HM := Aside0.mk hm; have hd0 : decide (0 < i) = false := decide_eq_false (by omega); clear hw hm h0
        case' inr => have HW := Aside0.mk hw; have HM := Aside0.mk hm; have hd0 : decide (0 < i) = true := decide_eq_true (by omega); have h1' : (1 : Int) ≤ i := (by omega); have hix0 : (0 : Int) ≤ (i : Int) - 1 := (by omega); have htn : ((i : Int) - 1).toNat = i - 1 := (by omega); clear hw hm
        all_goals refine start_ (n := 32) (ds := []) (S := (fun W => W.cell? ⟨bx, 0, none⟩ = some (.string key) ∧ W.cell? ⟨bx, 1, none⟩ = some (.string val) ∧ (Instr.lookup 65 (.map (some w.heap.size)) (.string key) false).run Try.prog W = .ok (.int .i64 1) W ∧ W.cell? (ad.add ((i - 1) * 2)) = some (.string pk))) (lt_ 0 32) (by kernel_rfl) rfl (by kernel_rfl) ⟨HX0.out, HX1.out, HLK.out _ (Fr.refl w2 no).drew, HXP.out⟩ (fun hHeld => ?_)
        all_goals (refine pure_ (i := 0) (N := (some 19)) (v := ?_) (a' := ?_) (lt_ 1 32) rfl rfl (by kernel_rfl) (fun _ _ _ h => h) (Or.inl ⟨by rfl, ?_⟩) ?_ ?_; rotate_left; (intro w'; go_simp; try with_reducible rfl); rotate_left; (simp only [Act.put, List.setIfInBounds_toArray, List.set_cons_zero, List.set_cons_succ, i64_w, i32_w]; rfl))
        all_goals (refine pure_ (i := 1) (N := (some 20)) (v := ?_) (a' := ?_) (lt_ 2 32) rfl rfl (by kernel_rfl) (fun _ _ _ h => h) (Or.inl ⟨by rfl, ?_⟩) ?_ ?_; rotate_left; (intro w'; go_simp; try with_reducible rfl); rotate_left; (simp only [Act.put, List.setIfInBounds_toArray, List.set_cons_zero, List.set_cons_succ, i64_w, i32_w]; rfl))
        all_goals (refine take_ (i := 2) (N := (some 21)) (v := ?_) (a' := ?_) (lt_ 3 32) rfl rfl (by kernel_rfl) (fun _ _ _ h => h) (Or.inl ⟨by rfl, ?_⟩) hHeld ?_ ?_; rotate_left; (rintro w' ⟨s0, s1, s2, s3⟩; go_simp; try with_reducible rfl); rotate_left; (simp only [Act.put, List.setIfInBounds_toArray, List.set_cons_zero, List.set_cons_succ, i64_w, i32_w]; rfl))
        all_goals (refine take_ (i := 3) (N := (some 22)) (v := ?_) (a' := ?_) (lt_ 4 32) rfl rfl (by kernel_rfl) (fun _ _ _ h => h) (Or.inl ⟨by rfl, ?_⟩) hHeld ?_ ?_; rotate_left; (rintro w' ⟨s0, s1, s2, s3⟩; go_simp; try with_reducible rfl); rotate_left; (simp only [Act.put, List.setIfInBounds_toArray, List.set_cons_zero, List.set_cons_succ, i64_w, i32_w]; rfl))
        all_goals (refine pure_ (i := 4) (N := (some 23)) (v := ?_) (a' := ?_) (lt_ 5 32) rfl rfl (by kernel_rfl) (fun _ _ _ h => h) (Or.inl ⟨by rfl, ?_⟩) ?_ ?_; rotate_left; (intro w'; go_simp; try with_reducible rfl); rotate_left; (simp only [Act.put, List.setIfInBounds_toArray, List.set_cons_zero, List.set_cons_succ, i64_w, i32_w]; rfl))
        all_goals (refine pure_ (i := 5) (N := (some 24)) (v := ?_) (a' := ?_) (lt_ 6 32) rfl rfl (by kernel_rfl) (fun _ _ _ h => h) (Or.inl ⟨by rfl, ?_⟩) ?_ ?_; rotate_left; (intro w'; go_simp; try with_reducible rfl); rotate_left; (simp only [Act.put, List.setIfInBounds_toArray, List.set_cons_zero, List.set_cons_succ, i64_w, i32_w]; rfl))
        all_goals first | (refine pure_ (i := 6) (N := (some 25)) (v := undef) (a' := ?_) (lt_ 7 32) rfl rfl (by kernel_rfl) (fun _ _ _ h => h) (Or.inr ⟨by rfl, rfl⟩) ?_ ?_; rotate_left; (simp only [Act.put, List.setIfInBounds_toArray, List.set_cons_zero, List.set_cons_succ, i64_w, i32_w]; rfl)) | (refine pure_ (i := 6) (N := (some 25)) (v := ?_) (a' := ?_) (lt_ 7 32) rfl rfl (by kernel_rfl) (fun _ _ _ h => h) (Or.inl ⟨by rfl, ?_⟩) ?_ ?_; rotate_left; (intro w'; go_simp; try with_reducible rfl); rotate_left; (simp only [Act.put, List.setIfInBounds_toArray, List.set_cons_zero, List.set_cons_succ, i64_w, i32_w]; rfl))
        all_goals first | (refine pure_ (i := 7) (N := (some 26)) (v := undef) (a' := ?_) (lt_ 8 32) rfl rfl (by kernel_rfl) (fun _ _ _ h => h) (Or.inr ⟨by rfl, rfl⟩) ?_ ?_; rotate_left; (simp only [Act.put, List.setIfInBounds_toArray, List.set_cons_zero, List.set_cons_succ, i64_w, i32_w]; rfl)) | (refine take_ (i := 7) (N := (some 26)) (v := ?_) (a' := ?_) (lt_ 8 32) rfl rfl (by kernel_rfl) (fun _ _ _ h => h) (Or.inl ⟨by rfl, ?_⟩) hHeld ?_ ?_; rotate_left; (rintro w' ⟨s0, s1, s2, s3⟩; go_simp; try with_reducible rfl); rotate_left; (simp only [Act.put, List.setIfInBounds_toArray, List.set_cons_zero, List.set_cons_succ, i64_w, i32_w]; rfl))
        all_goals first | (refine pure_ (i := 8) (N := (some 27)) (v := undef) (a' := ?_) (lt_ 9 32) rfl rfl (by kernel_rfl) (fun _ _ _ h => h) (Or.inr ⟨by rfl, rfl⟩) ?_ ?_; rotate_left; (simp only [Act.put, List.setIfInBounds_toArray, List.set_cons_zero, List.set_cons_succ, i64_w, i32_w]; rfl)) | (refine one_ (i := 8) (N := (some 27)) (lt_ 9 32) rfl rfl (by kernel_rfl) (by decide) (fun K hK => ?_); refine goes_ Try.func110 (by kernel_rfl) rfl #[.string key] (by rfl) rfl rfl (by (try simp only [List.map_toArray, List.map_cons, List.map_nil]); first | done | rfl) ?_; refine (word_calls key _ HKB.out).mono ?_; rintro e w3 ⟨rfl, hf3⟩; rw [HW.out]; replace HA := Aside0.mk (HA.out.then_ hf3 (fun _ h => .inl h)); clear hf3; refine ⟨_, rfl, ?_⟩; clear hHeld; refine hK.out _ _ ⟨cell_fr HX0.out HA.out (fun h => h), cell_fr HX1.out HA.out (fun h => h), HLK.out _ HA.out, cell_fr HXP.out HA.out (fun h => h)⟩ (fun hHeld => ?_); clear hK K; refine norm_ (a' := ?_) ?_ ?_; rotate_left; (show Act.put _ (some 27) _ = _; simp only [Act.put, List.setIfInBounds_toArray, List.set_cons_zero, List.set_cons_succ, i64_w, i32_w]; rfl))
        all_goals first | (refine pure_ (i := 9) (N := (some 28)) (v := undef) (a' := ?_) (lt_ 10 32) rfl rfl (by kernel_rfl) (fun _ _ _ h => h) (Or.inr ⟨by rfl, rfl⟩) ?_ ?_; rotate_left; (simp only [Act.put, List.setIfInBounds_toArray, List.set_cons_zero, List.set_cons_succ, i64_w, i32_w]; rfl)) | (refine pure_ (i := 9) (N := (some 28)) (v := ?_) (a' := ?_) (lt_ 10 32) rfl rfl (by kernel_rfl) (fun _ _ _ h => h) (Or.inl ⟨by rfl, ?_⟩) ?_ ?_; rotate_left; (intro w'; go_simp; try with_reducible rfl); rotate_left; (simp only [Act.put, List.setIfInBounds_toArray, List.set_cons_zero, List.set_cons_succ, i64_w, i32_w]; rfl))
        all_goals (refine pure_ (i := 10) (N := (some 29)) (v := ?_) (a' := ?_) (lt_ 11 32) rfl rfl (by kernel_rfl) (fun _ _ _ h => h) (Or.inl ⟨by rfl, ?_⟩) ?_ ?_; rotate_left; (intro w'; go_simp; try with_reducible rfl); rotate_left; (simp only [Act.put, List.setIfInBounds_toArray, List.set_cons_zero, List.set_cons_succ, i64_w, i32_w]; rfl))
        all_goals (refine pure_ (i := 11) (N := (some 30)) (v := ?_) (a' := ?_) (lt_ 12 32) rfl rfl (by kernel_rfl) (fun _ _ _ h => h) (Or.inl ⟨by rfl, ?_⟩) ?_ ?_; rotate_left; (intro w'; go_simp; try with_reducible rfl); rotate_left; (simp only [Act.put, List.setIfInBounds_toArray, List.set_cons_zero, List.set_cons_succ, i64_w, i32_w]; rfl))
        all_goals first | (refine pure_ (i := 12) (N := (some 31)) (v := undef) (a' := ?_) (lt_ 13 32) rfl rfl (by kernel_rfl) (fun _ _ _ h => h) (Or.inr ⟨by rfl, rfl⟩) ?_ ?_; rotate_left; (simp only [Act.put, List.setIfInBounds_toArray, List.set_cons_zero, List.set_cons_succ, i64_w, i32_w]; rfl)) | (refine pure_ (i := 12) (N := (some 31)) (v := ?_) (a' := ?_) (lt_ 13 32) rfl rfl (by kernel_rfl) (fun _ _ _ h => h) (Or.inl ⟨by rfl, ?_⟩) ?_ ?_; rotate_left; (intro w'; go_simp; try with_reducible rfl); rotate_left; (simp only [Act.put, List.setIfInBounds_toArray, List.set_cons_zero, List.set_cons_succ, i64_w, i32_w]; rfl))
        all_goals first | (refine pure_ (i := 13) (N := (some 32)) (v := undef) (a' := ?_) (lt_ 14 32) rfl rfl (by kernel_rfl) (fun _ _ _ h => h) (Or.inr ⟨by rfl, rfl⟩) ?_ ?_; rotate_left; (simp only [Act.put, List.setIfInBounds_toArray, List.set_cons_zero, List.set_cons_succ, i64_w, i32_w]; rfl)) | (refine take_ (i := 13) (N := (some 32)) (v := ?_) (a' := ?_) (lt_ 14 32) rfl rfl (by kernel_rfl) (fun _ _ _ h => h) (Or.inl ⟨by rfl, ?_⟩) hHeld ?_ ?_; rotate_left; (rintro w' ⟨s0, s1, s2, s3⟩; go_simp; try with_reducible rfl); rotate_left; (simp only [Act.put, List.setIfInBounds_toArray, List.set_cons_zero, List.set_cons_succ, i64_w, i32_w]; rfl))
        all_goals first | (refine pure_ (i := 14) (N := (some 33)) (v := undef) (a' := ?_) (lt_ 15 32) rfl rfl (by kernel_rfl) (fun _ _ _ h => h) (Or.inr ⟨by rfl, rfl⟩) ?_ ?_; rotate_left; (simp only [Act.put, List.setIfInBounds_toArray, List.set_cons_zero, List.set_cons_succ, i64_w, i32_w]; rfl)) | (refine one_ (i := 14) (N := (some 33)) (lt_ 15 32) rfl rfl (by kernel_rfl) (by decide) (fun K hK => ?_); refine goes_ Try.func111 (by kernel_rfl) rfl #[.string val] (by rfl) rfl rfl (by (try simp only [List.map_toArray, List.map_cons, List.map_nil]); first | done | rfl) ?_; refine (lmaybe_calls val _ HVB.out).mono ?_; rintro e w4 ⟨rfl, hf4⟩; rw [HM.out]; replace HA := Aside0.mk (HA.out.then_ hf4 (fun _ h => .inl h)); clear hf4; refine ⟨_, rfl, ?_⟩; clear hHeld; refine hK.out _ _ ⟨cell_fr HX0.out HA.out (fun h => h), cell_fr HX1.out HA.out (fun h => h), HLK.out _ HA.out, cell_fr HXP.out HA.out (fun h => h)⟩ (fun hHeld => ?_); clear hK K; refine norm_ (a' := ?_) ?_ ?_; rotate_left; (show Act.put _ (some 33) _ = _; simp only [Act.put, List.setIfInBounds_toArray, List.set_cons_zero, List.set_cons_succ, i64_w, i32_w]; rfl))
        all_goals first | (refine pure_ (i := 15) (N := (some 34)) (v := undef) (a' := ?_) (lt_ 16 32) rfl rfl (by kernel_rfl) (fun _ _ _ h => h) (Or.inr ⟨by rfl, rfl⟩) ?_ ?_; rotate_left; (simp only [Act.put, List.setIfInBounds_toArray, List.set_cons_zero, List.set_cons_succ, i64_w, i32_w]; rfl)) | (refine pure_ (i := 15) (N := (some 34)) (v := ?_) (a' := ?_) (lt_ 16 32) rfl rfl (by kernel_rfl) (fun _ _ _ h => h) (Or.inl ⟨by rfl, ?_⟩) ?_ ?_; rotate_left; (intro w'; go_simp; try with_reducible rfl); rotate_left; (simp only [Act.put, List.setIfInBounds_toArray, List.set_cons_zero, List.set_cons_succ, i64_w, i32_w]; rfl))
        all_goals (refine pure_ (i := 16) (N := (some 35)) (v := ?_) (a' := ?_) (lt_ 17 32) rfl rfl (by kernel_rfl) (fun _ _ _ h => h) (Or.inl ⟨by rfl, ?_⟩) ?_ ?_; rotate_left; (intro w'; go_simp; try with_reducible rfl); rotate_left; (simp only [Act.put, List.setIfInBounds_toArray, List.set_cons_zero, List.set_cons_succ, i64_w, i32_w]; rfl))
        all_goals (refine pure_ (i := 17) (N := (some 36)) (v := ?_) (a' := ?_) (lt_ 18 32) rfl rfl (by kernel_rfl) (fun _ _ _ h => h) (Or.inl ⟨by rfl, ?_⟩) ?_ ?_; rotate_left; (intro w'; go_simp; try with_reducible rfl); rotate_left; (simp only [Act.put, List.setIfInBounds_toArray, List.set_cons_zero, List.set_cons_succ, i64_w, i32_w]; rfl))
        all_goals first | (refine pure_ (i := 18) (N := (some 37)) (v := undef) (a' := ?_) (lt_ 19 32) rfl rfl (by kernel_rfl) (fun _ _ _ h => h) (Or.inr ⟨by rfl, rfl⟩) ?_ ?_; rotate_left; (simp only [Act.put, List.setIfInBounds_toArray, List.set_cons_zero, List.set_cons_succ, i64_w, i32_w]; rfl)) | (refine pure_ (i := 18) (N := (some 37)) (v := ?_) (a' := ?_) (lt_ 19 32) rfl rfl (by kernel_rfl) (fun _ _ _ h => h) (Or.inl ⟨by rfl, ?_⟩) ?_ ?_; rotate_left; (intro w'; go_simp; try with_reducible rfl); rotate_left; (simp only [Act.put, List.setIfInBounds_toArray, List.set_cons_zero, List.set_cons_succ, i64_w, i32_w]; rfl))
        all_goals first | (refine pure_ (i := 19) (N := (some 38)) (v := undef) (a' := ?_) (lt_ 20 32) rfl rfl (by kernel_rfl) (fun _ _ _ h => h) (Or.inr ⟨by rfl, rfl⟩) ?_ ?_; rotate_left; (simp only [Act.put, List.setIfInBounds_toArray, List.set_cons_zero, List.set_cons_succ, i64_w, i32_w]; rfl)) | (refine pure_ (i := 19) (N := (some 38)) (v := ?_) (a' := ?_) (lt_ 20 32) rfl rfl (by kernel_rfl) (fun _ _ _ h => h) (Or.inl ⟨by rfl, ?_⟩) ?_ ?_; rotate_left; (intro w'; go_simp; try with_reducible rfl); rotate_left; (simp only [Act.put, List.setIfInBounds_toArray, List.set_cons_zero, List.set_cons_succ, i64_w, i32_w]; rfl))
        all_goals first | (refine pure_ (i := 20) (N := (some 39)) (v := undef) (a' := ?_) (lt_ 21 32) rfl rfl (by kernel_rfl) (fun _ _ _ h => h) (Or.inr ⟨by rfl, rfl⟩) ?_ ?_; rotate_left; (simp only [Act.put, List.setIfInBounds_toArray, List.set_cons_zero, List.set_cons_succ, i64_w, i32_w]; rfl)) | (refine pure_ (i := 20) (N := (some 39)) (v := ?_) (a' := ?_) (lt_ 21 32) rfl rfl (by kernel_rfl) (fun _ _ _ h => h) (Or.inl ⟨by rfl, ?_⟩) ?_ ?_; rotate_left; (intro w'; go_simp; try with_reducible rfl); rotate_left; (simp only [Act.put, List.setIfInBounds_toArray, List.set_cons_zero, List.set_cons_succ, i64_w, i32_w]; rfl))
        all_goals first | (refine pure_ (i := 21) (N := (some 40)) (v := undef) (a' := ?_) (lt_ 22 32) rfl rfl (by kernel_rfl) (fun _ _ _ h => h) (Or.inr ⟨by rfl, rfl⟩) ?_ ?_; rotate_left; (simp only [Act.put, List.setIfInBounds_toArray, List.set_cons_zero, List.set_cons_succ, i64_w, i32_w]; rfl)) | (refine pure_ (i := 21) (N := (some 40)) (v := ?_) (a' := ?_) (lt_ 22 32) rfl rfl (by kernel_rfl) (fun _ _ _ h => h) (Or.inl ⟨by rfl, ?_⟩) ?_ ?_; rotate_left; (intro w'; go_simp; try with_reducible rfl); rotate_left; (simp only [Act.put, List.setIfInBounds_toArray, List.set_cons_zero, List.set_cons_succ, i64_w, i32_w]; rfl))
        all_goals first | (refine pure_ (i := 22) (N := (some 41)) (v := undef) (a' := ?_) (lt_ 23 32) rfl rfl (by kernel_rfl) (fun _ _ _ h => h) (Or.inr ⟨by rfl, rfl⟩) ?_ ?_; rotate_left; (simp only [Act.put, List.setIfInBounds_toArray, List.set_cons_zero, List.set_cons_succ, i64_w, i32_w]; rfl)) | (refine pure_ (i := 22) (N := (some 41)) (v := ?_) (a' := ?_) (lt_ 23 32) rfl rfl (by kernel_rfl) (fun _ _ _ h => h) (Or.inl ⟨by rfl, ?_⟩) ?_ ?_; rotate_left; (intro w'; go_simp; try with_reducible rfl); rotate_left; (simp only [Act.put, List.setIfInBounds_toArray, List.set_cons_zero, List.set_cons_succ, i64_w, i32_w]; rfl))
        all_goals first | (refine pure_ (i := 23) (N := (some 42)) (v := undef) (a' := ?_) (lt_ 24 32) rfl rfl (by kernel_rfl) (fun _ _ _ h => h) (Or.inr ⟨by rfl, rfl⟩) ?_ ?_; rotate_left; (simp only [Act.put, List.setIfInBounds_toArray, List.set_cons_zero, List.set_cons_succ, i64_w, i32_w]; rfl)) | (refine pure_ (i := 23) (N := (some 42)) (v := ?_) (a' := ?_) (lt_ 24 32) rfl rfl (by kernel_rfl) (fun _ _ _ h => h) (Or.inl ⟨by rfl, ?_⟩) ?_ ?_; rotate_left; (intro w'; go_simp; try with_reducible rfl); rotate_left; (simp only [Act.put, List.setIfInBounds_toArray, List.set_cons_zero, List.set_cons_succ, i64_w, i32_w]; rfl))
        all_goals first | (refine pure_ (i := 24) (N := (some 43)) (v := undef) (a' := ?_) (lt_ 25 32) rfl rfl (by kernel_rfl) (fun _ _ _ h => h) (Or.inr ⟨by rfl, rfl⟩) ?_ ?_; rotate_left; (simp only [Act.put, List.setIfInBounds_toArray, List.set_cons_zero, List.set_cons_succ, i64_w, i32_w]; rfl)) | (refine pure_ (i := 24) (N := (some 43)) (v := ?_) (a' := ?_) (lt_ 25 32) rfl rfl (by kernel_rfl) (fun _ _ _ h => h) (Or.inl ⟨by rfl, ?_⟩) ?_ ?_; rotate_left; (intro w'; go_simp; try with_reducible rfl); rotate_left; (simp only [Act.put, List.setIfInBounds_toArray, List.set_cons_zero, List.set_cons_succ, i64_w, i32_w]; rfl))
        all_goals first | (refine pure_ (i := 25) (N := (some 44)) (v := undef) (a' := ?_) (lt_ 26 32) rfl rfl (by kernel_rfl) (fun _ _ _ h => h) (Or.inr ⟨by rfl, rfl⟩) ?_ ?_; rotate_left; (simp only [Act.put, List.setIfInBounds_toArray, List.set_cons_zero, List.set_cons_succ, i64_w, i32_w]; rfl)) | (refine pure_ (i := 25) (N := (some 44)) (v := ?_) (a' := ?_) (lt_ 26 32) rfl rfl (by kernel_rfl) (fun _ _ _ h => h) (Or.inl ⟨by rfl, ?_⟩) ?_ ?_; rotate_left; (intro w'; go_simp; try with_reducible rfl); rotate_left; (simp only [Act.put, List.setIfInBounds_toArray, List.set_cons_zero, List.set_cons_succ, i64_w, i32_w]; rfl))
        all_goals first | (refine pure_ (i := 26) (N := (some 45)) (v := undef) (a' := ?_) (lt_ 27 32) rfl rfl (by kernel_rfl) (fun _ _ _ h => h) (Or.inr ⟨by rfl, rfl⟩) ?_ ?_; rotate_left; (simp only [Act.put, List.setIfInBounds_toArray, List.set_cons_zero, List.set_cons_succ, i64_w, i32_w]; rfl)) | (refine take_ (i := 26) (N := (some 45)) (v := ?_) (a' := ?_) (lt_ 27 32) rfl rfl (by kernel_rfl) (fun _ _ _ h => h) (Or.inl ⟨by rfl, ?_⟩) hHeld ?_ ?_; rotate_left; (rintro w' ⟨s0, s1, s2, s3⟩; go_simp; try with_reducible rfl); rotate_left; (simp only [Act.put, List.setIfInBounds_toArray, List.set_cons_zero, List.set_cons_succ, i64_w, i32_w]; rfl))
        all_goals first | (refine pure_ (i := 27) (N := (some 46)) (v := undef) (a' := ?_) (lt_ 28 32) rfl rfl (by kernel_rfl) (fun _ _ _ h => h) (Or.inr ⟨by rfl, rfl⟩) ?_ ?_; rotate_left; (simp only [Act.put, List.setIfInBounds_toArray, List.set_cons_zero, List.set_cons_succ, i64_w, i32_w]; rfl)) | (refine pure_ (i := 27) (N := (some 46)) (v := ?_) (a' := ?_) (lt_ 28 32) rfl rfl (by kernel_rfl) (fun _ _ _ h => h) (Or.inl ⟨by rfl, ?_⟩) ?_ ?_; rotate_left; (intro w'; go_simp; try with_reducible rfl); rotate_left; (simp only [Act.put, List.setIfInBounds_toArray, List.set_cons_zero, List.set_cons_succ, i64_w, i32_w]; rfl))
        all_goals first | (refine pure_ (i := 28) (N := (some 47)) (v := undef) (a' := ?_) (lt_ 29 32) rfl rfl (by kernel_rfl) (fun _ _ _ h => h) (Or.inr ⟨by rfl, rfl⟩) ?_ ?_; rotate_left; (simp only [Act.put, List.setIfInBounds_toArray, List.set_cons_zero, List.set_cons_succ, i64_w, i32_w]; rfl)) | (refine take_ (i := 28) (N := (some 47)) (v := ?_) (a' := ?_) (lt_ 29 32) rfl rfl (by kernel_rfl) (fun _ _ _ h => h) (Or.inl ⟨by rfl, ?_⟩) hHeld ?_ ?_; rotate_left; (rintro w' ⟨s0, s1, s2, s3⟩; go_simp; try with_reducible rfl); rotate_left; (simp only [Act.put, List.setIfInBounds_toArray, List.set_cons_zero, List.set_cons_succ, i64_w, i32_w]; rfl))
        all_goals first | (refine pure_ (i := 29) (N := (some 48)) (v := undef) (a' := ?_) (lt_ 30 32) rfl rfl (by kernel_rfl) (fun _ _ _ h => h) (Or.inr ⟨by rfl, rfl⟩) ?_ ?_; rotate_left; (simp only [Act.put, List.setIfInBounds_toArray, List.set_cons_zero, List.set_cons_succ, i64_w, i32_w]; rfl)) | (refine pure_ (i := 29) (N := (some 48)) (v := ?_) (a' := ?_) (lt_ 30 32) rfl rfl (by kernel_rfl) (fun _ _ _ h => h) (Or.inl ⟨by rfl, ?_⟩) ?_ ?_; rotate_left; (intro w'; go_simp; try with_reducible rfl); rotate_left; (simp only [Act.put, List.setIfInBounds_toArray, List.set_cons_zero, List.set_cons_succ, i64_w, i32_w]; rfl))
        all_goals first | (refine pure_ (i := 30) (N := (some 49)) (v := undef) (a' := ?_) (lt_ 31 32) rfl rfl (by kernel_rfl) (fun _ _ _ h => h) (Or.inr ⟨by rfl, rfl⟩) ?_ ?_; rotate_left; (simp only [Act.put, List.setIfInBounds_toArray, List.set_cons_zero, List.set_cons_succ, i64_w, i32_w]; rfl)) | (refine pure_ (i := 30) (N := (some 49)) (v := ?_) (a' := ?_) (lt_ 31 32) rfl rfl (by kernel_rfl) (fun _ _ _ h => h) (Or.inl ⟨by rfl, ?_⟩) ?_ ?_; rotate_left; (intro w'; go_simp; try with_reducible rfl); rotate_left; (simp only [Act.put, List.setIfInBounds_toArray, List.set_cons_zero, List.set_cons_succ, i64_w, i32_w]; rfl))
        all_goals (refine pure_ (i := 31) (N := (some 50)) (v := ?_) (a' := ?_) (lt_ 32 32) rfl rfl (by kernel_rfl) (fun _ _ _ h => h) (Or.inl ⟨by rfl, ?_⟩) ?_ ?_; rotate_left; (intro w'; go_simp; try with_reducible rfl); rotate_left; (simp only [Act.put, List.setIfInBounds_toArray, List.set_cons_zero, List.set_cons_succ, i64_w, i32_w]; rfl))
        all_goals refine done_ (by kernel_rfl) ?_
        all_goals go_wp2_with fail
        all_goals
          go_roundw
          case rel => exact ⟨i + 1, by omega, by go_num, ⟨⟨((HM2.out.fr HA.out (fun h => h)).congr (fun s _ => by rw [HKEY.out]; exact cnt1_succ s)), HFW.out.then_ HA.out (fun _ h => h.elim), allF_succ HI.out.ok HOK.out⟩⟩⟩
          case measure => simp [intOf]; omega
    · obtain rfl : i = l.length := by omega
      have HEND := Aside0.mk (labels_end HI.out.ok)
      go_wp2_with fail
      go_ret
      exact ⟨by rw [HEND.out]; simp <;> omega, Fr.of_below (HI.out.fr.to_below (fun k hk => by rw [hk]; exact Nat.le_refl _)) _⟩
end Go.Proofs.Ytdpchfifaidamaa.U
