/- Text, Texts; the document's own table (winnowerref04): Word. -/
import Derived.Test.YtmaoadlighjkpaaIg
namespace Go.Proofs.Ytmaoadlighjkpaa.In
open Go.RowKit Go.Proofs.YtmaoadlighjkpaaW.PrintWords Go.Proofs.YtmaoadlighjkpaaW.PrintLast Go.Proofs.YtmaoadlighjkpaaW.PrintMore
open Go.Proofs.Ytmaoadlighjkpaa.Base Go.Proofs.Ytmaoadlighjkpaa.Map Go.Proofs.Ytmaoadlighjkpaa.Ca Go.Proofs.Ytmaoadlighjkpaa.Qu Go.Maps
set_option linter.unusedVariables false

/-- slices of texts, read -/
abbrev RdS (w : World) (A : Option Addr) (l : List ByteArray) : Prop := Kd.C Kd.string w A l.length l
theorem RdS.nil_of_none {w : World} {l : List ByteArray} (h : RdS w none l) : l = [] := by
  rcases Nat.eq_zero_or_pos l.length with h0 | h0
  · exact List.eq_nil_of_length_eq_zero h0
  · obtain ⟨_, h', _⟩ := h.2.2 h0; cases h'
theorem R_emptyS (w : World) : Kd.R Kd.string 9 (w.alloc (.cells #[] 9)) w.heap.size (fun _ => True) (.slice (some ⟨w.heap.size, 0, none⟩) 0 0) [] :=
  Kd.R_of_own (World.ownsRow_made w #[] 0 (Nat.le_refl _) (by simp [maxLen]) (by simp)) (fun _ _ => trivial)

set_option maxHeartbeats 1000000 in
set_option maxRecDepth 100000 in
theorem cloneS_any (A : Option Addr) (c : Nat) (l : List ByteArray) (w : World) (hr : RdS w A l) (hc : l.length ≤ c) (hb : l.length ≤ 1000000) :
    Calls Try.prog 78 #[.slice A l.length c] w fun e w' => ∃ v, e = .returned v ∧ Kd.R Kd.string 9 w' w.heap.size (fun _ => True) v l ∧ Below w.heap.size w w' := by
  cases A with
  | none =>
    obtain rfl := hr.nil_of_none
    clear hb hr hc
    have heq := fun (w : World) => Go.Lib.run_eql_slice_nil (P := Try.prog) w 56 9 none 0 c 0 0 Try.underlying56
    simp only [List.length_nil]
    go_enter Try.func78, Try.ntmps78
    go_wp2
    go_ret
    exact ⟨_, rfl, Kd.R_nil _ _ _ _ _, Below.refl _ _⟩
  | some a =>
    have heq := fun (w : World) => Go.Lib.run_eql_slice_nil (P := Try.prog) w 56 9 (some a) l.length c 0 0 Try.underlying56
    have HR2 := Kd.C_below hr (below_alloc (Below.refl _ _) (.cells #[] 9))
    have HO := R_emptyS w
    have HB := below_alloc (Below.refl w.heap.size w) (.cells #[] 9)
    go_enter Try.func78, Try.ntmps78
    go_wp2_with (first | (at_builtin; refine Kd.R_append_row Value.string (⟨#[]⟩ : ByteArray) (h1 := fun _ => rfl) (w0 := w) w.heap.size rfl (.tmp 5) (.tmp 6) 56 9 (.string ⟨#[]⟩) 16 rfl Try.underlying56 info9 rfl (by decide) _ [] l _ _ c (fun _ => True) rfl rfl (fun _ _ => trivial) HO HR2 HB HB.size (by simp; omega) ?_; intro v1 w1 H1 H2 hg hat; clear hg hat))
    go_ret
    exact ⟨_, rfl, H1, H2⟩

set_option maxHeartbeats 1000000 in
set_option maxRecDepth 100000 in
theorem texts_tab (p : Nat) (F : Nat → Prop) (sl : List ByteArray) (tl : List (List Int)) (w : World) (h : TabAt w F p sl tl) (hb : sl.length ≤ 1000000) :
    Calls Try.prog 46 #[.pointer (some ⟨p, 0, none⟩)] w fun e w' => ∃ v, e = .returned v ∧ Kd.R Kd.string 9 w' w.heap.size (fun _ => True) v sl ∧ Below w.heap.size w w' := by
  obtain ⟨vt, vs, mw, mi, fw, fi, hbk, hT, _⟩ := h
  obtain ⟨A, c, rfl, hc, hr⟩ := Kd.R_reads hT
  have c1 := blk_cell hbk 1
  clear hbk hT
  go_enter Try.func46, Try.ntmps46
  go_wp2_with fail
  refine (cloneS_any A c sl w hr hc hb).mono ?_
  rintro e w1 ⟨v, rfl, h1, h2⟩
  go_wp2
  go_ret
  exact ⟨_, rfl, h1, h2⟩

/-- a number's text -/
def textOf (sl : List ByteArray) (id : Int) : ByteArray × Bool := if 0 ≤ id ∧ id < sl.length then (rdOf ByteArray.empty sl id, true) else (⟨#[]⟩, false)

set_option maxHeartbeats 1000000 in
set_option maxRecDepth 100000 in
theorem text_tab (p : Nat) (F : Nat → Prop) (sl : List ByteArray) (tl : List (List Int)) (w : World) (h : TabAt w F p sl tl) (id : Int) :
    Calls Try.prog 44 #[.pointer (some ⟨p, 0, none⟩), .int .i64 id] w fun e w' => e = .returned (.tuple #[.string (textOf sl id).1, .bool (textOf sl id).2]) ∧ w = w' := by
  obtain ⟨vt, vs, mw, mi, fw, fi, hbk, hT, _⟩ := h
  obtain ⟨A, c, rfl, hc, hr⟩ := Kd.R_reads hT
  have c1 := blk_cell hbk 1
  clear hbk hT
  by_cases h0 : id < 0
  · have ht : textOf sl id = (⟨#[]⟩, false) := by unfold textOf; rw [if_neg (by omega)]
    rw [ht]
    go_enter Try.func44, Try.ntmps44
    go_wp2
    go_ret2
    exact ⟨rfl, rfl⟩
  · by_cases h1 : id < (sl.length : Int)
    · have ht : textOf sl id = (rdOf ByteArray.empty sl id, true) := by unfold textOf; rw [if_pos (by omega)]
      rw [ht]
      clear ht
      obtain ⟨ad, hA, hx⟩ := Kd.at_string hr id (by omega) (by omega)
      subst hA
      have i0 : (0 : Int) ≤ id := by omega
      go_enter Try.func44, Try.ntmps44
      go_wp2
      go_ret2
      exact ⟨rfl, rfl⟩
    · have ht : textOf sl id = (⟨#[]⟩, false) := by unfold textOf; rw [if_neg (by omega)]
      rw [ht]
      go_enter Try.func44, Try.ntmps44
      go_wp2
      go_ret2
      exact ⟨rfl, rfl⟩

/-- The document's table in block r: its tuples, its texts. -/
structure RefAt (w : World) (G : Nat → Prop) (r : Nat) (ls : List (List Int)) (ss : List ByteArray) : Prop where
  mk :: (out : ∃ vL vT : Value, w.heap[r]? = some (.cells #[vL, vT] 58 (0, 0)) ∧ Kd.R (Kd.slice 3 (Kd.int .i64)) 22 w 0 G vL ls ∧ Kd.R Kd.string 9 w 0 G vT ss ∧ G r)
theorem RefAt.chg {w w1 : World} {F G : Nat → Prop} {r : Nat} {ls : List (List Int)} {ss : List ByteArray} (h : RefAt w G r ls ss) (hC : Chg F w w1) (hd : ∀ k, G k → ¬ F k) : RefAt w1 G r ls ss := by
  obtain ⟨vL, vT, h1, h2, h3, h4⟩ := h
  exact ⟨vL, vT, hC.blk h1 (hd _ h4), Kd.R_step h2 (fun k hk hlt => hC.block k hlt (hd k hk)), Kd.R_step h3 (fun k hk hlt => hC.block k hlt (hd k hk)), h4⟩
theorem RefAt.mono {w : World} {G G' : Nat → Prop} {r : Nat} {ls : List (List Int)} {ss : List ByteArray} (h : RefAt w G r ls ss) (hF : ∀ k, G k → G' k) : RefAt w G' r ls ss := by
  obtain ⟨vL, vT, h1, h2, h3, h4⟩ := h
  exact ⟨vL, vT, h1, Kd.R_mono h2 hF, Kd.R_mono h3 hF, hF _ h4⟩
theorem RefAt.below {w w1 : World} {G : Nat → Prop} {r : Nat} {ls : List (List Int)} {ss : List ByteArray} (h : RefAt w G r ls ss) (hb : Below w.heap.size w w1) : RefAt w1 G r ls ss := h.chg (Chg.of_below hb (fun _ => False)) (fun _ _ hk => hk)
theorem TabAt.chg {w w1 : World} {F G : Nat → Prop} {p : Nat} {sl : List ByteArray} {tl : List (List Int)} (h : TabAt w F p sl tl) (hC : Chg G w w1) (hd : ∀ k, F k → ¬ G k) : TabAt w1 F p sl tl := by
  obtain ⟨vt, vs, mw, mi, fw, fi, h1, h2, h3, h4, h5, h6, h7⟩ := h
  exact ⟨vt, vs, mw, mi, fw, fi, hC.blk h1 (hd _ h6.1), Kd.R_step h2 (fun k hk hlt => hC.block k hlt (hd k hk)), Kd.R_step h3 (fun k hk hlt => hC.block k hlt (hd k hk)), h4.chg hC (hd _ h6.2.1), h5.chg hC (hd _ h6.2.2.1), h6, h7⟩

theorem bytes_inj {a b : ByteArray} (h : a.toList = b.toList) : a = b := by
  rw [ByteArray.toList_eq, ByteArray.toList_eq] at h
  exact ByteArray.ext (Array.toList_inj.1 h)
theorem rd_str (l : List ByteArray) (i : Nat) (h : i < l.length) : rdOf ByteArray.empty l i = l[i] := by simp [rdOf, h]
theorem place_le {α : Type} [DecidableEq α] {s : α} : ∀ {l : List α} {i : Nat} (h : i < l.length), l[i] = s → place l s ≤ i
  | [], i, h, _ => by simp at h
  | a :: l, 0, _, e => by
    have e : a = s := e
    unfold place; simp [e]
  | a :: l, i + 1, h, e => by
    have := place_le (l := l) (s := s) (i := i) (by simpa using h) (by simpa using e)
    unfold place at this ⊢
    rw [List.idxOf_cons]
    by_cases c : a = s
    · simp [c]
    · rw [show (a == s) = false from beq_eq_false_iff_ne.2 c]; simp only [cond_false]; omega
theorem place_first {α : Type} [DecidableEq α] {l : List α} {s : α} {i : Nat} (hi : i < l.length) (he : l[i] = s) (hn : ∀ j (h : j < l.length), j < i → l[j] ≠ s) : place l s = i := by
  have hm : s ∈ l := he ▸ List.getElem_mem hi
  have h1 : place l s < l.length := place_lt hm
  have h2 : l[place l s] = s := by unfold place; exact List.getElem_idxOf h1
  have h3 := place_le hi he
  rcases Nat.lt_or_ge (place l s) i with h | h
  · exact absurd h2 (hn _ h1 h)
  · omega

set_option maxHeartbeats 2000000 in
set_option maxRecDepth 100000 in
theorem refWord_any (r : Nat) (G : Nat → Prop) (ls : List (List Int)) (ss : List ByteArray) (s : ByteArray) (w : World) (h : RefAt w G r ls ss) (hlen : ss.length ≤ 1000000) :
    Calls Try.prog 43 #[.pointer (some ⟨r, 0, none⟩), .string s] w fun e w' => e = .returned (.int .i64 (place ss s : Int)) ∧ RefAt w' (ext G w w') r ls (wordL ss s) ∧ Chg G w w' := by
  have h0 := h
  obtain ⟨vL, vT, hb, hL, hT, hG⟩ := h
  obtain ⟨A, c, rfl, hc, hr⟩ := Kd.R_reads hT
  have c1 := blk_cell hb 1
  have z1 := blk_frozen hb 1
  have Hb := Aside0.mk hb
  have HL := Aside0.mk hL
  have HT := Aside0.mk hT
  clear hb hL hT
  go_enter Try.func43, Try.ntmps43
  go_wp2_with fail
  go_loopw [5] (fun i wr => ∃ j : Nat, i = .int .i64 j ∧ j ≤ ss.length ∧ (∀ k (h : k < ss.length), k < j → ss[k] ≠ s) ∧ Aside0 (wr = w)) (fun i _ => ss.length - (intOf i).toNat)
  case atStart => exact ⟨0, rfl, Nat.zero_le _, fun k _ hk => absurd hk (Nat.not_lt_zero k), ⟨rfl⟩⟩
  case round =>
    obtain ⟨j, rfl, hj, hn, ⟨rfl⟩⟩ := hrel
    by_cases hlt : j < ss.length
    · obtain ⟨ad, hA, hx⟩ := Kd.at_string hr j (by omega) (by omega)
      rw [Int.toNat_natCast, rd_str ss j hlt] at hx
      subst hA
      have i0 : (0 : Int) ≤ (j : Int) := by omega
      have i1 : (j : Int) < (ss.length : Int) := by omega
      by_cases he : ss[j] = s
      · rw [he] at hx
        have hp := place_first hlt he hn
        have hm : s ∈ ss := he ▸ List.getElem_mem hlt
        go_wp2
        go_ret
        unfold wordL
        rw [if_pos hm, hp]
        exact ⟨rfl, h0.mono (fun k hk => .inl hk), Chg.refl G _⟩
      · have hstep : ∀ k (hk : k < ss.length), k < j + 1 → ss[k] ≠ s := fun k hk hkj => by
          rcases Nat.lt_or_ge k j with h1 | h1
          · exact hn k hk h1
          · obtain rfl : k = j := by omega
            exact he
        obtain ⟨y, hy⟩ : ∃ y, ss[j] = y := ⟨_, rfl⟩
        rw [hy] at hx he
        clear hy
        have hne : (y.toList == s.toList) = false := beq_eq_false_iff_ne.2 (fun e => he (bytes_inj e))
        go_wp2_with fail
        go_roundw
        case rel => exact ⟨j + 1, by go_num, by omega, hstep, ⟨trivial⟩⟩
        case measure => simp [intOf]; omega
    · obtain rfl : j = ss.length := by omega
      have hm : s ∉ ss := fun hm => by
        obtain ⟨k, hk, he⟩ := List.getElem_of_mem hm
        exact hn k hk hk he
      have hTx := Aside0.mk (Kd.R_below HT.out (below_alloc (Below.refl _ _) (.cells #[.string s] 9)))
      have hbx := Aside0.mk (Qu.blk_below Hb.out (below_alloc (Below.refl _ _) (.cells #[.string s] 9)))
      go_wp2_with (first | (at_builtin; refine strApp rfl (.tmp 29) (.tmp 31) rfl (.slice A ss.length c) G ss s _ rfl rfl hTx.out (by simp) hlen ?_; intro v3 w3 hR3 hC3 hg3; obtain ⟨A3, c3', hv3, _, _⟩ := Kd.R_reads hR3; obtain ⟨n3, hn3⟩ : ∃ n, (ss ++ [s]).length = n := ⟨_, rfl⟩; rw [hn3] at hv3; subst hv3; have hne := Kd.R_ne (g := r) hTx.out hbx.out (by decide); have hb3 := Aside0.mk (blk_grown hbx.out hg3 hne); have z3' : w3.frozen? ⟨r, 1, none⟩ = false := blk_frozen hb3.out 1; have e3 : w3.cell? ⟨r, 1, none⟩ = some (.slice A ss.length c) := blk_cell hb3.out 1; have HR3 := Aside0.mk hR3; have HC3 := Aside0.mk hC3; have Hg3 := Aside0.mk hg3; have Hn3 := Aside0.mk hn3; clear hR3 hC3 hg3 hne hn3))
      have hn3 := Hn3.out
      rw [List.length_append, List.length_singleton] at hn3
      have hw : wrap64 ((n3 : Int) - 1) = (place ss s : Int) := by rw [place_new hm]; unfold wrap64; omega
      rw [hw]
      go_ret
      have hb4 := blk_set hb3.out 1 (.slice A3 n3 c3')
      have hT4 := Kd.R_set HR3.out hb3.out (fun q hq => by rcases List.mem_cons.1 hq with rfl | hq; decide; cases hq) 1 (.slice A3 n3 c3')
      have hL3 := Kd.R_over (Kd.R_below HL.out (below_alloc (Below.refl _ _) (.cells #[.string s] 9))) hTx.out (fun q hq => by rcases List.mem_cons.1 hq with rfl | hq; decide; rcases List.mem_cons.1 hq with rfl | hq; decide; cases hq) Hg3.out
      have hL4 := Kd.R_set hL3 hb3.out (fun q hq => by rcases List.mem_cons.1 hq with rfl | hq; decide; rcases List.mem_cons.1 hq with rfl | hq; decide; cases hq) 1 (.slice A3 n3 c3')
      have hC : Chg G wr (w3.setCell ⟨r, 1, none⟩ (.slice A3 n3 c3')) := ((Chg.alloc wr (.cells #[.string s] 9) G).then_ HC3.out (fun k hk => .inl hk)).then_ (Chg.setCell w3 (p := ⟨r, 1, none⟩) hG _) (fun k hk => .inl hk)
      unfold wordL
      rw [if_neg hm]
      refine ⟨rfl, ⟨_, _, hb4, Kd.R_mono hL4 (fun k hk => .inl hk), Kd.R_mono hT4 (fun k hk => ?_), .inl hG⟩, hC⟩
      rcases hk with hk | hk
      · exact .inl hk
      · refine .inr ⟨?_, by simpa [World.setCell] using hk.2⟩
        have := hk.1
        simp at this
        omega
end Go.Proofs.Ytmaoadlighjkpaa.In
