/- names: plain laws: keywords, names, and what a name lexes as. -/
import Derived.Test.YtkbbliicijnpjaaDoorLm
namespace Go.Proofs.YtkbbliicijnpjaaDoor.Lx
open Go.RowKit Go.Proofs.YtkbbliicijnpjaaDoorW.PrintWords Go.Proofs.YtkbbliicijnpjaaDoorW.PrintLast Go.Proofs.YtkbbliicijnpjaaDoorW.PrintMore
open Go.Proofs.YtkbbliicijnpjaaDoor.Base Go.Proofs.YtkbbliicijnpjaaDoor.PLexTokens Go.Proofs.YtkbbliicijnpjaaDoor.PLexNames Go.Proofs.YtkbbliicijnpjaaDoor.Map
set_option linter.unusedVariables false

/-- the keywords -/
def kwL : List ByteArray := (winnowerref05_Words.f).getD []
theorem kwL_words : winnowerref05_Words.f = some kwL := rfl
theorem kwL_len : kwL.length = 22 := rfl
def isIn (l : List ByteArray) (x : ByteArray) : Bool := l.any (fun y => decide (y.toList = x.toList))
/-- is a text a keyword? -/
def kwB (s : ByteArray) : Bool := isIn kwL s

theorem rdOf_get (l : List ByteArray) (j : Nat) (h : j < l.length) : l.drop j = rdOf ByteArray.empty l (j : Int) :: l.drop (j + 1) := by
  rw [List.drop_eq_getElem_cons h]
  congr 1
  simp [rdOf, List.getD, List.getElem?_eq_getElem h]
theorem idx_l0 (l : List ByteArray) (x : ByteArray) (hl : l.length ≤ 1000) : ∀ (d j k : Nat), d + j = l.length → d < k → ∃ r, slices_Index_string_string.l0 k l x (l.length : Int) (j : Int) = some r ∧ decide (r ≥ 0) = isIn (l.drop j) x
  | _, _, 0, _, hk => absurd hk (Nat.not_lt_zero _)
  | 0, j, k + 1, hd, hk => by
    refine ⟨-1, by rw [slices_Index_string_string.l0, if_neg (by omega)], ?_⟩
    rw [List.drop_eq_nil_of_le (by omega)]
    rfl
  | d + 1, j, k + 1, hd, hk => by
    obtain ⟨r, h1, h2⟩ := idx_l0 l x hl d (j + 1) k (by omega) (by omega)
    have hw : wrap64 ((j : Int) + 1) = ((j + 1 : Nat) : Int) := by unfold wrap64; omega
    have hg := rdOf_get l j (by omega)
    rw [slices_Index_string_string.l0, if_pos (by omega), if_pos (by omega), if_pos (by omega), hg]
    by_cases h : x.toList = (rdOf ByteArray.empty l (j : Int)).toList
    · rw [if_pos h]
      refine ⟨_, rfl, ?_⟩
      unfold isIn
      have hq : decide ((rdOf ByteArray.empty l (j : Int)).toList = x.toList) = true := decide_eq_true h.symm
      rw [List.any_cons, hq, decide_eq_true (by omega)]
      rfl
    · rw [if_neg h, hw]
      refine ⟨r, h1, ?_⟩
      unfold isIn at h2 ⊢
      have hq : decide ((rdOf ByteArray.empty l (j : Int)).toList = x.toList) = false := decide_eq_false (fun e => h e.symm)
      rw [List.any_cons, hq, h2]
      rfl
theorem contains_f (s : ByteArray) : slices_Contains_string_string.f 40 kwL s = some (kwB s) := by
  obtain ⟨r, h1, h2⟩ := idx_l0 kwL s (by decide) kwL.length 0 40 rfl (by decide)
  rw [slices_Contains_string_string.f, slices_Index_string_string.f]
  have h3 : slices_Index_string_string.l0 40 kwL s (kwL.length : Int) 0 = some r := h1
  rw [h3, Option.bind_some, h2]
  rfl
theorem kw_l0 (l : List ByteArray) (x : ByteArray) (hl : l.length ≤ 1000) : ∀ (d j k : Nat), d + j = l.length → d < k → winnowerref05_Keyword.l0 k x l (j : Int) = some (isIn (l.drop j) x)
  | _, _, 0, _, hk => absurd hk (Nat.not_lt_zero _)
  | 0, j, k + 1, hd, hk => by
    rw [winnowerref05_Keyword.l0, if_neg (by omega), List.drop_eq_nil_of_le (by omega)]
    rfl
  | d + 1, j, k + 1, hd, hk => by
    have h1 := kw_l0 l x hl d (j + 1) k (by omega) (by omega)
    have hw : wrap64 ((j : Int) + 1) = ((j + 1 : Nat) : Int) := by unfold wrap64; omega
    have hg := rdOf_get l j (by omega)
    rw [winnowerref05_Keyword.l0, if_pos (by omega), if_pos (by omega), hg]
    unfold isIn at h1 ⊢
    by_cases h : (rdOf ByteArray.empty l (j : Int)).toList = x.toList
    · rw [if_pos h, List.any_cons, decide_eq_true h]
      rfl
    · rw [if_neg h, hw, h1, List.any_cons, decide_eq_false h]
      rfl
theorem kw_f (s : ByteArray) (k : Nat) (hk : 22 < k) : winnowerref05_Keyword.f k s = some (kwB s) := by
  rw [winnowerref05_Keyword.f, kwL_words, Option.bind_some]
  exact kw_l0 kwL s (by decide) kwL.length 0 k rfl hk

/-- letters and digits, from an octet on -/
def restB (s : ByteArray) (j : Nat) : Bool := (List.range (s.size - j)).all (fun i => letB (bt s ((j + i : Nat) : Int)) || digB (bt s ((j + i : Nat) : Int)))
theorem restB_end (s : ByteArray) : restB s s.size = true := by
  unfold restB
  rw [Nat.sub_self]
  rfl
theorem restB_step (s : ByteArray) (j : Nat) (h : j < s.size) : restB s j = ((letB (bt s (j : Int)) || digB (bt s (j : Int))) && restB s (j + 1)) := by
  rw [Bool.eq_iff_iff]
  simp only [restB, List.all_eq_true, List.mem_range, Bool.and_eq_true]
  constructor
  · intro hh
    refine ⟨hh 0 (by omega), fun i hi => ?_⟩
    have := hh (i + 1) (by omega)
    rwa [show j + (i + 1) = j + 1 + i by omega] at this
  · rintro ⟨h0, hh⟩ i hi
    cases i with
    | zero => exact h0
    | succ i =>
      have := hh i (by omega)
      rwa [show j + 1 + i = j + (i + 1) by omega] at this
/-- may something be called so? -/
def nameB (s : ByteArray) : Bool := decide (0 < s.size) && (decide (s.size ≤ 32) && (letB (bt s 0) && (!kwB s && restB s 0)))

theorem name_l0 (s : ByteArray) (hs : s.size ≤ 32) : ∀ (d j k : Nat), d + j = s.size → d + 5 < k → winnowerref05_Name.l0 k s (j : Int) = some (restB s j)
  | _, _, 0, _, hk => absurd hk (Nat.not_lt_zero _)
  | 0, j, k + 1, hd, hk => by
    obtain rfl : j = s.size := by omega
    rw [winnowerref05_Name.l0, if_neg (by omega), restB_end]
  | d + 1, j, k + 1, hd, hk => by
    have h1 := name_l0 s hs d (j + 1) k (by omega) (by omega)
    have hw : wrap64 ((j : Int) + 1) = ((j + 1 : Nat) : Int) := by unfold wrap64; omega
    have hki := (kind_is s (j : Int)).1
    rw [winnowerref05_Name.l0, if_pos (by omega), if_pos (by omega), kind_k s (j : Int) k (by omega), Option.bind_some, restB_step s j (by omega)]
    cases h : (letB (bt s (j : Int)) || digB (bt s (j : Int))) with
    | true =>
      rw [h] at hki
      rw [if_neg (by have := of_decide_eq_true hki; omega), hw, h1]
      rfl
    | false =>
      rw [h] at hki
      rw [if_pos (by have := of_decide_eq_false hki; omega)]
      rfl
theorem nil_size (s : ByteArray) : (s.toList = ([] : List UInt8)) ↔ s.size = 0 := by
  rw [ByteArray.toList_eq, Lib.size_eq]
  exact List.length_eq_zero_iff.symm
theorem name_f (s : ByteArray) : winnowerref05_Name.f 60 s = some (nameB s) := by
  have hj : winnowerref05_Name.j0 60 s true = some false := by rw [winnowerref05_Name.j0, if_pos rfl]
  rw [winnowerref05_Name.f]
  unfold nameB
  by_cases h0 : s.size = 0
  · rw [if_pos ((nil_size s).2 h0), hj, decide_eq_false (by omega)]
    rfl
  rw [if_neg (fun e => h0 ((nil_size s).1 e)), decide_eq_true (show 0 < s.size by omega)]
  by_cases h1 : 32 < s.size
  · rw [if_pos (by omega), hj, decide_eq_false (by omega)]
    rfl
  rw [if_neg (by omega), if_pos (by omega), decide_eq_true (show s.size ≤ 32 by omega), kind_k s 0 60 (by decide), Option.bind_some]
  have hki := (kind_is s 0).2.2
  cases hl : letB (bt s 0) with
  | false =>
    rw [hl] at hki
    rw [if_neg (of_decide_eq_false hki), hj]
    rfl
  | true =>
    rw [hl] at hki
    rw [if_pos (of_decide_eq_true hki), kw_f s 60 (by decide), Option.bind_some]
    cases hk : kwB s with
    | true => rw [hj]; rfl
    | false =>
      rw [winnowerref05_Name.j0, if_neg (by decide)]
      have := name_l0 s (by omega) s.size 0 59 rfl (by omega)
      exact this

theorem let_tab : (List.range 256).all (fun c => !letB (c : Int) || (!spB (c : Int) && c != 35)) = true := by kernel_rfl
theorem let_is (s : ByteArray) (i : Int) (hl : letB (bt s i) = true) : spB (bt s i) = false ∧ bt s i ≠ 35 := by
  have h := bt_range s i
  obtain ⟨c, hc⟩ : ∃ c : Nat, bt s i = (c : Int) := ⟨(bt s i).toNat, by omega⟩
  rw [hc] at h hl ⊢
  have := List.all_eq_true.1 let_tab c (List.mem_range.2 (by omega))
  rw [hl] at this
  simp only [Bool.not_true, Bool.false_or, Bool.and_eq_true, Bool.not_eq_true', bne_iff_ne, ne_eq] at this
  exact ⟨this.1, by omega⟩
theorem ext_end (s : ByteArray) : (s.extract s.size s.size).size = 0 := by rw [ext_size s s.size (Nat.le_refl _), Nat.sub_self]
/-- a name is one token -/
theorem name_tok (s : ByteArray) (h : nameB s = true) {r : Out} (hT : TokS s r) : ∃ a b, r = ([⟨0, s, ⟨1, 1⟩⟩], a, b, 0, 0, 0) := by
  simp only [nameB, Bool.and_eq_true, decide_eq_true_eq, Bool.not_eq_true'] at h
  obtain ⟨h0, h1, h2, h3, h4⟩ := h
  obtain ⟨g1, g2⟩ := let_is s 0 h2
  refine ⟨(placeF s (1, 1) s.size).1, (placeF s (1, 1) s.size).2, tok_one hT (.inr ⟨by omega, .step s (1, 1) [] 0 s.size _ h0 (.word s.size g1 g2 h2 ⟨Nat.le_refl _, fun j hj => ?_, fun hh => absurd hh (Nat.lt_irrefl _)⟩ h1) (Nat.le_refl _) ?_⟩)⟩
  · have := List.all_eq_true.1 h4 j (List.mem_range.2 (by omega))
    rwa [Nat.zero_add] at this
  · rw [if_pos (by decide), ext_zero]
    exact .done _ _ _ (ext_end s)
end Go.Proofs.YtkbbliicijnpjaaDoor.Lx
