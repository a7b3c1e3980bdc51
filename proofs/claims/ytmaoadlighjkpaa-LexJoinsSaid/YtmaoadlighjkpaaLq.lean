/- lex: tokens with something between lex as the same tokens. -/
import Derived.Test.YtmaoadlighjkpaaLo
namespace Go.Proofs.Ytmaoadlighjkpaa.Lx
open Go.RowKit Go.Proofs.YtmaoadlighjkpaaW.PrintWords Go.Proofs.YtmaoadlighjkpaaW.PrintLast Go.Proofs.YtmaoadlighjkpaaW.PrintMore
open Go.Proofs.Ytmaoadlighjkpaa.Base Go.Proofs.Ytmaoadlighjkpaa.PLexTokens Go.Proofs.Ytmaoadlighjkpaa.Map
set_option linter.unusedVariables false

theorem oct_tab : (List.range 256).all (fun c => (!letB (c : Int) || (!spB (c : Int) && c != 35)) && (!digB (c : Int) || (!spB (c : Int) && c != 35 && !letB (c : Int))) && (!sgB (c : Int) || (!spB (c : Int) && c != 35 && !letB (c : Int) && !digB (c : Int) && c != 58))) = true := by kernel_rfl
theorem oct_is (s : ByteArray) (i : Int) : (letB (bt s i) = true → spB (bt s i) = false ∧ bt s i ≠ 35) ∧ (digB (bt s i) = true → spB (bt s i) = false ∧ bt s i ≠ 35 ∧ letB (bt s i) = false) ∧
    (sgB (bt s i) = true → spB (bt s i) = false ∧ bt s i ≠ 35 ∧ letB (bt s i) = false ∧ digB (bt s i) = false ∧ bt s i ≠ 58) := by
  have h := bt_range s i
  obtain ⟨c, hc⟩ : ∃ c : Nat, bt s i = (c : Int) := ⟨(bt s i).toNat, by omega⟩
  rw [hc] at h ⊢
  have := List.all_eq_true.1 oct_tab c (List.mem_range.2 (by omega))
  simp only [Bool.and_eq_true, Bool.or_eq_true, Bool.not_eq_true', bne_iff_ne, ne_eq] at this
  obtain ⟨⟨h1, h2⟩, h3⟩ := this
  refine ⟨fun h => ?_, fun h => ?_, fun h => ?_⟩
  · rcases h1 with h1 | h1
    · rw [h] at h1; cases h1
    · exact ⟨h1.1, by omega⟩
  · rcases h2 with h2 | h2
    · rw [h] at h2; cases h2
    · exact ⟨h2.1.1, by omega, h2.2⟩
  · rcases h3 with h3 | h3
    · rw [h] at h3; cases h3
    · exact ⟨h3.1.1.1.1, by omega, h3.1.1.2, h3.1.2, by omega⟩
theorem bt_take (s : ByteArray) (n j : Nat) (hn : n ≤ s.size) (hj : j < n) : bt (s.extract 0 n) (j : Int) = bt s (j : Int) := by
  rw [bt_get, bt_get, Lib.extract_data, List.getElem?_take, if_pos (by omega), List.getElem?_drop, Nat.zero_add]
theorem take_size (s : ByteArray) (n : Nat) (hn : n ≤ s.size) : (s.extract 0 n).size = n := by
  rw [Lib.size_eq, Lib.extract_data, List.length_take, List.length_drop, ← Lib.size_eq]
  omega

/-- a token's kind and text -/
inductive TokOk : Int → ByteArray → Prop
  | word (x : ByteArray) : letB (bt x 0) = true → 1 ≤ x.size → x.size ≤ 32 → (∀ j : Nat, j < x.size → (letB (bt x (j : Int)) || digB (bt x (j : Int))) = true) → TokOk 0 x
  | num (x : ByteArray) : digB (bt x 0) = true → 1 ≤ x.size → x.size ≤ 3 → (∀ j : Nat, j < x.size → digB (bt x (j : Int)) = true) → TokOk 1 x
  | two (x : ByteArray) : x.size = 2 → bt x 0 = 58 → bt x 1 = 58 → TokOk 2 x
  | sign (x : ByteArray) : x.size = 1 → sgB (bt x 0) = true → TokOk 2 x
theorem TokOk.kind {k : Int} {x : ByteArray} (h : TokOk k x) : 0 ≤ k := by cases h <;> omega
theorem TokOk.pos {k : Int} {x : ByteArray} (h : TokOk k x) : 1 ≤ x.size := by cases h <;> omega
theorem d58 : spB 58 = false ∧ letB 58 = false ∧ digB 58 = false := ⟨by kernel_rfl, by kernel_rfl, by kernel_rfl⟩

theorem TokOk.step {k : Int} {x : ByteArray} (h : TokOk k x) (rest : ByteArray) (hr : 1 ≤ rest.size) (hl : letB (bt rest 0) = false) (hd : digB (bt rest 0) = false) : StepS (x ++ rest) k x.size 0 := by
  have hp := h.pos
  have e0 : bt (x ++ rest) 0 = bt x 0 := bt_left x rest 0 hp
  have er : bt (x ++ rest) (x.size : Int) = bt rest 0 := bt_right x rest 0
  have hz := app_size x rest
  cases h with
  | word _ h1 h2 h3 h4 =>
    obtain ⟨g1, g2⟩ := (oct_is x 0).1 h1
    exact .word _ (by rw [e0]; exact g1) (by rw [e0]; exact g2) (by rw [e0]; exact h1) ⟨by omega, fun j hj => by rw [bt_left x rest j hj]; exact h4 j hj, fun _ => by rw [er, hl, hd]; rfl⟩ h3
  | num _ h1 h2 h3 h4 =>
    obtain ⟨g1, g2, g3⟩ := (oct_is x 0).2.1 h1
    exact .num _ (by rw [e0]; exact g1) (by rw [e0]; exact g2) (by rw [e0]; exact g3) (by rw [e0]; exact h1) ⟨by omega, fun j hj => by rw [bt_left x rest j hj]; exact h4 j hj, fun _ => by rw [er, hd]⟩ h3
  | two _ h1 h2 h3 =>
    obtain ⟨g1, g2, g3⟩ := d58
    have e1 : bt (x ++ rest) 1 = bt x 1 := bt_left x rest 1 (by omega)
    rw [h1]
    exact .two (by rw [e0, h2]; exact g1) (by rw [e0, h2]; decide) (by rw [e0, h2]; exact g2) (by rw [e0, h2]; exact g3) ((pre_iff _).2 ⟨by omega, by rw [e0]; exact h2, by rw [e1]; exact h3⟩)
  | sign _ h1 h2 =>
    obtain ⟨g1, g2, g3, g4, g5⟩ := (oct_is x 0).2.2 h2
    rw [h1]
    refine .sign (by rw [e0]; exact g1) (by rw [e0]; exact g2) (by rw [e0]; exact g3) (by rw [e0]; exact g4) ?_ (by rw [e0]; exact h2)
    cases hq : preB (x ++ rest) with
    | false => rfl
    | true =>
      have := ((pre_iff _).1 hq).2.1
      rw [e0] at this
      exact absurd this g5
/-- a step that takes a token -/
theorem StepS.tok {s : ByteArray} {k : Int} {n : Nat} (h : StepS s k n 0) (hz : 0 < s.size) (hn : n ≤ s.size) (hk : 0 ≤ k) : TokOk k (s.extract 0 n) := by
  have hp := h.pos hz
  have hs := take_size s n hn
  have hb : ∀ j : Nat, j < n → bt (s.extract 0 n) (j : Int) = bt s (j : Int) := fun j hj => bt_take s n j hn hj
  have hb0 : bt (s.extract 0 n) 0 = bt s 0 := hb 0 hp
  cases h with
  | sp => omega
  | rem => omega
  | word _ h1 h2 h3 h4 h5 => exact .word _ (by rw [hb0]; exact h3) (by omega) (by omega) (fun j hj => by rw [hb j (by omega)]; exact h4.ok j (by omega))
  | num _ h1 h2 h3 h4 h5 h6 => exact .num _ (by rw [hb0]; exact h4) (by omega) (by omega) (fun j hj => by rw [hb j (by omega)]; exact h5.ok j (by omega))
  | two h1 h2 h3 h4 h5 =>
    obtain ⟨g1, g2, g3⟩ := (pre_iff _).1 h5
    exact .two _ hs (by rw [hb0]; exact g2) (by rw [show (1 : Int) = ((1 : Nat) : Int) from rfl, hb 1 (by omega)]; exact g3)
  | sign h1 h2 h3 h4 h5 h6 => exact .sign _ hs (by rw [hb0]; exact h6)

def lenAll (D : List S116) : Nat := (D.map (fun t => t.f1.size)).sum
theorem lex_toks {S : ByteArray} {p : Int × Int} {out : List S116} {r : Out} (h : LexS S p out r) : r.2.2.2.1 = 0 → ∃ D, r.1 = out ++ D ∧ (∀ t ∈ D, TokOk t.f0 t.f1) ∧ lenAll D ≤ S.size ∧ D.length ≤ S.size := by
  induction h with
  | done s p out hz => exact fun _ => ⟨[], by simp, fun t ht => by simp at ht, by simp [lenAll], by simp⟩
  | err s p out kd n e hz hS he => exact fun h => absurd h he
  | step s p out kd n r hz hS hn hL ih =>
    intro h0
    obtain ⟨D, h1, h2, h3, h4⟩ := ih h0
    have hp := hS.pos hz
    rw [ext_size _ _ hn] at h3 h4
    by_cases hk : 0 ≤ kd
    · rw [if_pos hk] at h1
      refine ⟨⟨kd, s.extract 0 n, ⟨p.1, p.2⟩⟩ :: D, by rw [h1, List.append_assoc]; rfl, fun t ht => ?_, ?_, ?_⟩
      · rcases List.mem_cons.1 ht with rfl | ht
        · exact hS.tok hz hn hk
        · exact h2 t ht
      · simp only [lenAll, List.map_cons, List.sum_cons, take_size s n hn] at h3 ⊢
        omega
      · simp only [List.length_cons]; omega
    · rw [if_neg hk] at h1
      exact ⟨D, h1, h2, by omega, by omega⟩

/-- what may stand between -/
structure Gap (G : ByteArray) : Prop where
  over : ∀ (rest : ByteArray) (p : Int × Int), ∃ p' : Int × Int, ∀ out r, LexS rest p' out r → LexS (G ++ rest) p out r
  pos : 1 ≤ G.size
  le : G.size ≤ 7
  nl : letB (bt G 0) = false
  nd : digB (bt G 0) = false
theorem sp_over (c : UInt8) (hc : spB ((c.toNat : Nat) : Int) = true) (rest : ByteArray) (p : Int × Int) : ∃ p' : Int × Int, ∀ out r, LexS rest p' out r → LexS (({ data := #[c] } : ByteArray) ++ rest) p out r := by
  refine ⟨placeF (({ data := #[c] } : ByteArray) ++ rest) p 1, fun out r h => ?_⟩
  have e0 : bt (({ data := #[c] } : ByteArray) ++ rest) 0 = ((c.toNat : Nat) : Int) := bt_left ({ data := #[c] } : ByteArray) rest 0 (by show 0 < 1; omega)
  exact lex_app (a := { data := #[c] }) (k := -1) (by show 0 < 1; omega) (.sp (by rw [e0]; exact hc)) (by rw [if_neg (by decide)]; exact h)
theorem over_app {G H : ByteArray} (hG : ∀ (rest : ByteArray) (p : Int × Int), ∃ p' : Int × Int, ∀ out r, LexS rest p' out r → LexS (G ++ rest) p out r) (hH : ∀ (rest : ByteArray) (p : Int × Int), ∃ p' : Int × Int, ∀ out r, LexS rest p' out r → LexS (H ++ rest) p out r) :
    ∀ (rest : ByteArray) (p : Int × Int), ∃ p' : Int × Int, ∀ out r, LexS rest p' out r → LexS ((G ++ H) ++ rest) p out r := by
  intro rest p
  obtain ⟨p1, h1⟩ := hG (H ++ rest) p
  obtain ⟨p2, h2⟩ := hH rest p1
  exact ⟨p2, fun out r h => by rw [app_assoc]; exact h1 out r (h2 out r h)⟩
theorem rem_bts : (List.range 5).all (fun j => bt ({ data := #[35, 32, 120, 32, 59] } : ByteArray) (j : Int) != 10) = true := by kernel_rfl
theorem d35 : spB 35 = false := by kernel_rfl
theorem rem_over (rest : ByteArray) (p : Int × Int) : ∃ p' : Int × Int, ∀ out r, LexS rest p' out r → LexS (({ data := #[35, 32, 120, 32, 59] } : ByteArray) ++ ({ data := #[10] } : ByteArray) ++ rest) p out r := by
  rw [app_assoc]
  obtain ⟨p1, h1⟩ := sp_over 10 (by kernel_rfl) rest (placeF (({ data := #[35, 32, 120, 32, 59] } : ByteArray) ++ (({ data := #[10] } : ByteArray) ++ rest)) p 5)
  refine ⟨p1, fun out r h => ?_⟩
  have e0 : bt (({ data := #[35, 32, 120, 32, 59] } : ByteArray) ++ (({ data := #[10] } : ByteArray) ++ rest)) 0 = 35 := bt_left ({ data := #[35, 32, 120, 32, 59] } : ByteArray) (({ data := #[10] } : ByteArray) ++ rest) 0 (by show 0 < 5; omega)
  have e5 : bt (({ data := #[35, 32, 120, 32, 59] } : ByteArray) ++ (({ data := #[10] } : ByteArray) ++ rest)) ((5 : Nat) : Int) = 10 := (bt_right ({ data := #[35, 32, 120, 32, 59] } : ByteArray) (({ data := #[10] } : ByteArray) ++ rest) 0).trans (bt_left ({ data := #[10] } : ByteArray) rest 0 (by show 0 < 1; omega))
  refine lex_app (a := { data := #[35, 32, 120, 32, 59] }) (k := -1) (by show 0 < 5; omega) (.rem 5 (by rw [e0]; exact d35) e0 ⟨?_, fun j hj => ?_, fun _ => ?_⟩) (by rw [if_neg (by decide)]; exact h1 out r h)
  · rw [app_size]; exact Nat.le_add_right 5 _
  · have h2 := List.all_eq_true.1 rem_bts j (List.mem_range.2 hj)
    rw [← bt_left ({ data := #[35, 32, 120, 32, 59] } : ByteArray) (({ data := #[10] } : ByteArray) ++ rest) j hj] at h2
    exact h2
  · rw [e5]; rfl
theorem gap0 : Gap { data := #[32] } := ⟨sp_over 32 (by kernel_rfl), by show 1 ≤ 1; omega, by show 1 ≤ 7; omega, by kernel_rfl, by kernel_rfl⟩
theorem gap1 : Gap { data := #[10] } := ⟨sp_over 10 (by kernel_rfl), by show 1 ≤ 1; omega, by show 1 ≤ 7; omega, by kernel_rfl, by kernel_rfl⟩
theorem gap2 : Gap { data := #[9, 32, 13] } := by
  refine ⟨?_, by show 1 ≤ 3; omega, by show 3 ≤ 7; omega, by kernel_rfl, by kernel_rfl⟩
  have e : ({ data := #[9, 32, 13] } : ByteArray) = { data := #[9] } ++ ({ data := #[32] } ++ { data := #[13] }) := ba_ext (by rw [app_data, app_data]; rfl)
  rw [e]
  exact over_app (sp_over 9 (by kernel_rfl)) (over_app (sp_over 32 (by kernel_rfl)) (sp_over 13 (by kernel_rfl)))
theorem gap3 : Gap { data := #[32, 35, 32, 120, 32, 59, 10] } := by
  refine ⟨?_, by show 1 ≤ 7; omega, by show 7 ≤ 7; omega, by kernel_rfl, by kernel_rfl⟩
  have e : ({ data := #[32, 35, 32, 120, 32, 59, 10] } : ByteArray) = { data := #[32] } ++ ({ data := #[35, 32, 120, 32, 59] } ++ { data := #[10] }) := ba_ext (by rw [app_data, app_data]; rfl)
  rw [e]
  exact over_app (sp_over 32 (by kernel_rfl)) rem_over

/-- tokens, one behind the other, something behind each -/
def joinR (G : ByteArray) : List S116 → ByteArray
  | [] => { data := #[] }
  | x :: D => x.f1 ++ (G ++ joinR G D)
theorem app_nil (a : ByteArray) : a ++ ({ data := #[] } : ByteArray) = a := ba_ext (by rw [app_data]; exact List.append_nil _)
theorem nil_app (a : ByteArray) : ({ data := #[] } : ByteArray) ++ a = a := ba_ext (by rw [app_data]; rfl)
theorem joinR_snoc (G : ByteArray) (D : List S116) (x : S116) : joinR G (D ++ [x]) = joinR G D ++ (x.f1 ++ G) := by
  induction D with
  | nil =>
    have e : joinR G [] = { data := #[] } := rfl
    show x.f1 ++ (G ++ joinR G []) = joinR G [] ++ (x.f1 ++ G)
    rw [e, app_nil, nil_app]
  | cons y D ih =>
    show y.f1 ++ (G ++ joinR G (D ++ [x])) = (y.f1 ++ (G ++ joinR G D)) ++ (x.f1 ++ G)
    rw [ih]
    simp only [app_assoc]
theorem joinR_size (G : ByteArray) (hG : G.size ≤ 7) (D : List S116) : (joinR G D).size ≤ lenAll D + 7 * D.length := by
  induction D with
  | nil => exact Nat.zero_le _
  | cons y D ih =>
    rw [joinR, app_size, app_size]
    simp only [lenAll, List.map_cons, List.sum_cons, List.length_cons] at ih ⊢
    omega
/-- the same tokens, wherever they stand -/
inductive Alike : List S116 → List S116 → Prop
  | nil : Alike [] []
  | cons (k : Int) (x : ByteArray) (p q : S107) {D E : List S116} : Alike D E → Alike (⟨k, x, p⟩ :: D) (⟨k, x, q⟩ :: E)
theorem Alike.len {D E : List S116} (h : Alike D E) : D.length = E.length := by
  induction h with
  | nil => rfl
  | cons _ _ _ _ _ ih => simp [ih]
theorem Alike.get {D E : List S116} (h : Alike D E) : ∀ i : Nat, i < D.length → (rd_T116 D (i : Int)).f0 = (rd_T116 E (i : Int)).f0 ∧ (rd_T116 D (i : Int)).f1 = (rd_T116 E (i : Int)).f1 := by
  induction h with
  | nil => intro i hi; simp at hi
  | cons k x p q _ ih =>
    intro i hi
    cases i with
    | zero => exact ⟨rfl, rfl⟩
    | succ i =>
      have := ih i (by simp at hi; omega)
      simpa [rd_T116] using this
theorem join_lex {G : ByteArray} (hG : Gap G) : ∀ (D : List S116), (∀ t ∈ D, TokOk t.f0 t.f1) → ∀ (p : Int × Int) (out : List S116), ∃ (E : List S116) (q : Int × Int), Alike D E ∧ LexS (G ++ joinR G D) p out (out ++ E, q.1, q.2, 0, 0, 0)
  | [], _, p, out => by
    obtain ⟨p1, h1⟩ := hG.over { data := #[] } p
    exact ⟨[], p1, .nil, h1 _ _ (by rw [List.append_nil]; exact .done _ _ _ rfl)⟩
  | ⟨k, x, pl⟩ :: D, hD, p, out => by
    obtain ⟨p1, h1⟩ := hG.over (x ++ (G ++ joinR G D)) p
    have hx : TokOk k x := hD ⟨k, x, pl⟩ List.mem_cons_self
    obtain ⟨E, q, hA, hL⟩ := join_lex hG D (fun t ht => hD t (List.mem_cons_of_mem _ ht)) (placeF (x ++ (G ++ joinR G D)) p1 x.size) (out ++ [⟨k, x, ⟨p1.1, p1.2⟩⟩])
    have e0 : bt (G ++ joinR G D) 0 = bt G 0 := bt_left G _ 0 hG.pos
    refine ⟨⟨k, x, ⟨p1.1, p1.2⟩⟩ :: E, q, .cons k x _ _ hA, h1 _ _ (lex_app (k := k) hx.pos (hx.step _ (by rw [app_size]; have := hG.pos; omega) (by rw [e0]; exact hG.nl) (by rw [e0]; exact hG.nd)) ?_)⟩
    rw [if_pos hx.kind]
    rw [List.append_assoc] at hL
    exact hL
/-- what the second call answers -/
theorem join_tok {s G : ByteArray} (hs : s.size ≤ 400) (hG : Gap G) {l : List S116} {a b c d : Int} (h : TokS s (l, a, b, 0, c, d)) {r : Out} (h2 : TokS (G ++ joinR G l) r) : ∃ (E : List S116) (q1 q2 : Int), Alike l E ∧ r = (E, q1, q2, 0, 0, 0) := by
  rcases h with ⟨h, _⟩ | ⟨_, h⟩
  · omega
  obtain ⟨D, hD, hT, hz, hn⟩ := lex_toks h rfl
  rw [List.nil_append] at hD
  obtain rfl : l = D := hD
  obtain ⟨E, q, hA, hL⟩ := join_lex hG l hT (1, 1) []
  rw [List.nil_append] at hL
  have := joinR_size G hG.le l
  have h3 := app_size G (joinR G l)
  have := hG.le
  exact ⟨E, q.1, q.2, hA, tok_one h2 (.inr ⟨by omega, hL⟩)⟩
theorem join_le {s : ByteArray} (hs : s.size ≤ 400) {l : List S116} {a b c d : Int} (h : TokS s (l, a, b, 0, c, d)) : lenAll l ≤ 400 ∧ l.length ≤ 400 := by
  rcases h with ⟨h, _⟩ | ⟨_, h⟩
  · omega
  obtain ⟨D, hD, hT, hz, hn⟩ := lex_toks h rfl
  rw [List.nil_append] at hD
  obtain rfl : l = D := hD
  omega
end Go.Proofs.Ytmaoadlighjkpaa.Lx
