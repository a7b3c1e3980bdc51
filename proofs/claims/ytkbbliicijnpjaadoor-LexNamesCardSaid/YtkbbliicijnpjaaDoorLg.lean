/- lex: Tokens. -/
import Derived.Test.YtkbbliicijnpjaaDoorLf
import Derived.Test.YtkbbliicijnpjaaDoorLz
namespace Go.Proofs.YtkbbliicijnpjaaDoor.Lx
open Go.RowKit Go.Proofs.YtkbbliicijnpjaaDoorW.PrintWords Go.Proofs.YtkbbliicijnpjaaDoorW.PrintLast Go.Proofs.YtkbbliicijnpjaaDoorW.PrintMore
open Go.Proofs.YtkbbliicijnpjaaDoor.Base Go.Proofs.YtkbbliicijnpjaaDoor.PLexTokens Go.Proofs.YtkbbliicijnpjaaDoor.PLexNames Go.Proofs.YtkbbliicijnpjaaDoor.Map
set_option linter.unusedVariables false

abbrev Out := List S33 × Int × Int × Int × Int × Int

/-- what is left of a text, the place, the tokens so far: what comes out -/
inductive LexS : ByteArray → Int × Int → List S33 → Out → Prop
  | done (s : ByteArray) (p : Int × Int) (out : List S33) : s.size = 0 → LexS s p out (out, p.1, p.2, 0, 0, 0)
  | err (s : ByteArray) (p : Int × Int) (out : List S33) (k : Int) (n : Nat) (e : Int) : 0 < s.size → StepS s k n e → e ≠ 0 → LexS s p out ([], 0, 0, e, p.1, p.2)
  | step (s : ByteArray) (p : Int × Int) (out : List S33) (k : Int) (n : Nat) (r : Out) : 0 < s.size → StepS s k n 0 → n ≤ s.size → LexS (s.extract n s.size) (placeF s p n) (if 0 ≤ k then out ++ [⟨k, s.extract 0 n, ⟨p.1, p.2⟩⟩] else out) r → LexS s p out r

theorem Run.pos {P : Int → Bool} {s : ByteArray} {n : Nat} (h : Run P s n) (hz : 0 < s.size) (hp : P (bt s 0) = true) : 1 ≤ n := by
  rcases Nat.eq_zero_or_pos n with rfl | h1
  · have := h.no hz
    rw [show ((0 : Nat) : Int) = 0 from rfl, hp] at this
    cases this
  · exact h1
theorem StepS.pos {s : ByteArray} {k : Int} {n : Nat} {e : Int} (h : StepS s k n e) (hz : 0 < s.size) : 1 ≤ n := by
  cases h with
  | sp => omega
  | rem _ _ h1 h2 => exact h2.pos hz (by simp [h1])
  | word _ _ _ h1 h2 => exact h2.pos hz (by simp [h1])
  | wordBig _ _ _ h1 h2 => exact h2.pos hz (by simp [h1])
  | num _ _ _ _ h1 h2 => exact h2.pos hz (by simp [h1])
  | numBig _ _ _ _ h1 h2 => exact h2.pos hz (by simp [h1])
  | two => omega
  | sign => omega
  | bad => omega

theorem Toks.far {w : World} {b : Nat} {vs : Value} {out : List S33} (h : Toks w b vs out) {p : Addr} (hp : p.block < b) (u : Value) : Toks (w.setCell p u) b vs out :=
  ⟨Kd.R_mono (Kd.R_far (Kd.R_bound h.out) (fun k hk e => by have := hk.2.1; omega) u) (fun _ _ => trivial)⟩
theorem ext_size (s : ByteArray) (n : Nat) (h : n ≤ s.size) : (s.extract n s.size).size = s.size - n := by
  rw [Lib.size_eq, Lib.extract_data, List.length_take, List.length_drop, ← Lib.size_eq]
  omega
theorem empty_size (s : ByteArray) : s.toList.isEmpty = decide (s.size = 0) := by
  rw [ByteArray.toList_eq, Lib.size_eq]
  cases s.data.toList <;> simp
/-- what Tokens answers -/
def TokS (s : ByteArray) (r : Out) : Prop := (20000 < s.size ∧ r = ([], 0, 0, 13, 1, 1)) ∨ (s.size ≤ 20000 ∧ LexS s (1, 1) [] r)

set_option maxHeartbeats 4000000 in
set_option maxRecDepth 100000 in
theorem tokens_any (s : ByteArray) (w : World) :
    Calls Tryd.prog 13 #[.string s] w fun e w' => ∃ (v : Value) (r : Out), e = .returned (.tuple #[v, .agg #[.int .i64 r.2.1, .int .i64 r.2.2.1], .agg #[.int .i64 r.2.2.2.1, .int .i64 r.2.2.2.2.1, .int .i64 r.2.2.2.2.2]]) ∧ TokS s r ∧ Kd.R k33 33 w' w.heap.size (fun _ => True) v r.1 ∧ Below w.heap.size w w' := by
  have hu26 := Tryd.underlying26
  have hu29 := Tryd.underlying29
  have hu33 := Tryd.underlying33
  by_cases hs : 20000 < s.size
  · have hd : decide ((s.size : Int) > 20000) = true := decide_eq_true (by omega)
    have hd2 : decide ((20000 : Int) < (s.size : Int)) = true := decide_eq_true (by omega)
    have hd3 : decide (20000 < s.size) = true := decide_eq_true hs
    have Hs := Aside0.mk hs
    clear hs
    go_enter Tryd.func13, Tryd.ntmps13
    go_wp2_with fail
    have B3 : ((w.alloc (.cells #[.int .i64 0, .int .i64 0] 26)).alloc (.cells #[.int .i64 13, .int .i64 1, .int .i64 1] 29)).heap[w.heap.size]? = some (.cells #[.int .i64 0, .int .i64 0] 26 (0, 0)) := blk_belowL (heap_alloc_new _ _) (below_alloc (Below.refl _ _) _)
    have B4 : ((w.alloc (.cells #[.int .i64 0, .int .i64 0] 26)).alloc (.cells #[.int .i64 13, .int .i64 1, .int .i64 1] 29)).heap[w.heap.size + 1]? = some (.cells #[.int .i64 13, .int .i64 1, .int .i64 1] 29 (0, 0)) := by
      rw [show w.heap.size + 1 = (w.alloc (.cells #[.int .i64 0, .int .i64 0] 26)).heap.size by simp]
      exact heap_alloc_new _ _
    refine bodyPost_ret (results_list (rs := [.tmp 2, .cell 3 26, .cell 4 29]) rfl (by simp) (.tmp (.cell w.heap.size 26 #[.int .i64 0, .int .i64 0] (0, 0) _ rfl B3 Tryd.underlying26 rfl (by kernel_rfl) (.cell (w.heap.size + 1) 29 #[.int .i64 13, .int .i64 1, .int .i64 1] (0, 0) _ rfl B4 Tryd.underlying29 rfl (by kernel_rfl) .nil)))) rfl ?_
    exact ⟨_, ([], 0, 0, 13, 1, 1), rfl, .inl ⟨Hs.out, rfl⟩, Kd.R_nil _ _ _ _ _, below_alloc (below_alloc (Below.refl _ _) _) _⟩
  · have hd : decide ((s.size : Int) > 20000) = false := decide_eq_false (by omega)
    have hd2 : decide ((20000 : Int) < (s.size : Int)) = false := decide_eq_false (by omega)
    have hd3 : decide (20000 < s.size) = false := decide_eq_false hs
    have Hs := Aside0.mk (Nat.le_of_not_lt hs)
    clear hs
    go_enter Tryd.func13, Tryd.ntmps13
    have B3 : Aside0 ((((w.alloc (.cells #[.int .i64 0, .int .i64 0] 26)).alloc (.cells #[.int .i64 0, .int .i64 0, .int .i64 0] 29)).alloc (.cells #[.int .i64 1, .int .i64 1, .string s, .slice none 0 0] 81)).heap[w.heap.size]? = some (.cells #[.int .i64 0, .int .i64 0] 26 (0, 0))) := ⟨blk_belowL (blk_belowL (heap_alloc_new _ _) (below_alloc (Below.refl _ _) _)) (below_alloc (Below.refl _ _) _)⟩
    have B4 : Aside0 ((((w.alloc (.cells #[.int .i64 0, .int .i64 0] 26)).alloc (.cells #[.int .i64 0, .int .i64 0, .int .i64 0] 29)).alloc (.cells #[.int .i64 1, .int .i64 1, .string s, .slice none 0 0] 81)).heap[w.heap.size + 1]? = some (.cells #[.int .i64 0, .int .i64 0, .int .i64 0] 29 (0, 0))) := ⟨by
      rw [show w.heap.size + 1 = (w.alloc (.cells #[.int .i64 0, .int .i64 0] 26)).heap.size by simp]
      exact blk_belowL (heap_alloc_new _ _) (below_alloc (Below.refl _ _) _)⟩
    have HS : Aside0 (Scn (((w.alloc (.cells #[.int .i64 0, .int .i64 0] 26)).alloc (.cells #[.int .i64 0, .int .i64 0, .int .i64 0] 29)).alloc (.cells #[.int .i64 1, .int .i64 1, .string s, .slice none 0 0] 81)) (w.heap.size + 1 + 1) 1 1 s []) := ⟨⟨_, by
      rw [show w.heap.size + 1 + 1 = ((w.alloc (.cells #[.int .i64 0, .int .i64 0] 26)).alloc (.cells #[.int .i64 0, .int .i64 0, .int .i64 0] 29)).heap.size by simp]
      exact heap_alloc_new _ _, ⟨Kd.R_nil _ _ _ _ _⟩⟩⟩
    have HB : Aside0 (Below w.heap.size w (((w.alloc (.cells #[.int .i64 0, .int .i64 0] 26)).alloc (.cells #[.int .i64 0, .int .i64 0, .int .i64 0] 29)).alloc (.cells #[.int .i64 1, .int .i64 1, .string s, .slice none 0 0] 81))) := ⟨below_alloc (below_alloc (below_alloc (Below.refl _ _) _) _) _⟩
    obtain ⟨g4, hg4⟩ : ∃ g4, g4 = w.heap.size + 1 := ⟨_, rfl⟩
    obtain ⟨b, hbb⟩ : ∃ b, b = w.heap.size + 1 + 1 := ⟨_, rfl⟩
    have Hg : Aside0 (w.heap.size < g4 ∧ g4 < b) := ⟨by omega, by omega⟩
    rw [← hbb] at HS
    rw [← hg4] at B4
    go_wp2_with fail
    rw [← hbb, ← hg4]
    clear hbb hg4
    generalize (((w.alloc (.cells #[.int .i64 0, .int .i64 0] 26)).alloc (.cells #[.int .i64 0, .int .i64 0, .int .i64 0] 29)).alloc (.cells #[.int .i64 1, .int .i64 1, .string s, .slice none 0 0] 81)) = W0 at *
    go_loopg [6] s.size (fun kq v6 wr => ∃ (s' : ByteArray) (l c : Int) (out : List S33), Aside0 (kq = s'.size) ∧ Aside0 (∀ r, LexS s' (l, c) out r → LexS s (1, 1) [] r) ∧ Aside0 (Scn wr b l c s' out) ∧ Aside0 (out.length + s'.size ≤ s.size) ∧ Aside0 (wr.heap[w.heap.size]? = some (.cells #[.int .i64 0, .int .i64 0] 26 (0, 0))) ∧ Aside0 (wr.heap[g4]? = some (.cells #[.int .i64 0, .int .i64 0, .int .i64 0] 29 (0, 0))) ∧ Aside0 (Below w.heap.size w wr))
    case atStart => exact ⟨s, 1, 1, [], ⟨rfl⟩, ⟨fun r h => h⟩, HS, ⟨by simp⟩, B3, B4, HB⟩
    case round =>
      clear B3 B4 HS HB
      obtain ⟨s', l, c, out, hk, HL, HS, HO, B3, B4, HB⟩ := hrel
      obtain ⟨vs, hbk, hT⟩ := HS.out
      have d0 := cell_of hbk 0 _ rfl
      have d1 := cell_of hbk 1 _ rfl
      have d2 := cell_of hbk 2 _ rfl
      have d3 := cell_of hbk 3 _ rfl
      have HT := Aside0.mk hT
      have Hbk := Aside0.mk hbk
      clear hT hbk
      have n1 : ¬ w.heap.size = g4 := by have := Hg.out; omega
      have n2 : ¬ g4 = w.heap.size := by have := Hg.out; omega
      have n3 : ¬ w.heap.size = b := by have := Hg.out; omega
      have n4 : ¬ b = w.heap.size := by have := Hg.out; omega
      have n5 : ¬ g4 = b := by have := Hg.out; omega
      have n6 : ¬ b = g4 := by have := Hg.out; omega
      have e30 := cell_of B3.out 0 _ rfl
      have e31 := cell_of B3.out 1 _ rfl
      have e40 := cell_of B4.out 0 _ rfl
      have e41 := cell_of B4.out 1 _ rfl
      have e42 := cell_of B4.out 2 _ rfl
      have f30 := blk_frozen B3.out 0
      have f31 := blk_frozen B3.out 1
      have f40 := blk_frozen B4.out 0
      have f41 := blk_frozen B4.out 1
      have f42 := blk_frozen B4.out 2
      by_cases hz : s'.size = 0
      · have he : s'.toList.isEmpty = true := by rw [empty_size]; simpa using hz
        have Hz := Aside0.mk hz
        clear hz
        go_wp2_with fail
        go_region
        all_goals go_wp2_with fail
        have K3 := blk_drew (blk_far (blk_far (blk_far (blk_put (blk_put B3.out 0 (.int .i64 l) rfl) 1 (.int .i64 c) rfl) (p := ⟨g4, 0, none⟩) n1 (.int .i64 0)) (p := ⟨g4, 1, none⟩) n1 (.int .i64 0)) (p := ⟨g4, 2, none⟩) n1 (.int .i64 0))
        have K4 := blk_drew (blk_put (blk_put (blk_put (blk_far (blk_far B4.out (p := ⟨w.heap.size, 0, none⟩) n2 (.int .i64 l)) (p := ⟨w.heap.size, 1, none⟩) n2 (.int .i64 c)) 0 (.int .i64 0) rfl) 1 (.int .i64 0) rfl) 2 (.int .i64 0) rfl)
        have m3 : w.heap.size < b := by have := Hg.out; omega
        have m4 : g4 < b := by have := Hg.out; omega
        have m5 : w.heap.size ≤ g4 := by have := Hg.out; omega
        refine bodyPost_ret (results_list (rs := [.tmp 2, .cell 3 26, .cell 4 29]) rfl (by simp) (.tmp (.cell w.heap.size 26 #[.int .i64 l, .int .i64 c] (0, 0) _ rfl K3 Tryd.underlying26 rfl (by kernel_rfl) (.cell g4 29 #[.int .i64 0, .int .i64 0, .int .i64 0] (0, 0) _ rfl K4 Tryd.underlying29 rfl (by kernel_rfl) .nil)))) rfl ?_
        exact ⟨_, (out, l, c, 0, 0, 0), rfl, .inr ⟨Hs.out, HL.out _ (.done s' (l, c) out Hz.out)⟩, Kd.R_lower (Kd.R_drew (((((HT.out.far (p := ⟨w.heap.size, 0, none⟩) m3 _).far (p := ⟨w.heap.size, 1, none⟩) m3 _).far (p := ⟨g4, 0, none⟩) m4 _).far (p := ⟨g4, 1, none⟩) m4 _).far (p := ⟨g4, 2, none⟩) m4 _).out) (Nat.le_of_lt m3), below_drew1 (below_setCell (below_setCell (below_setCell (below_setCell (below_setCell HB.out (Nat.le_refl _) _) (Nat.le_refl _) _) m5 _) m5 _) m5 _)⟩
      · have he : s'.toList.isEmpty = false := by rw [empty_size]; simpa using hz
        have Hz := Aside0.mk (Nat.pos_of_ne_zero hz)
        clear hz
        go_wp2_with fail
        refine (step_any b l c s' out _ HS.out Hz.out (by have := HO.out; have := Hs.out; omega) (by have := HO.out; have := Hs.out; omega)).mono ?_
        rintro e w1 ⟨k, n, er, rfl, hS, hBl, hor⟩
        have HSt := Aside0.mk hS
        have HBl := Aside0.mk hBl
        clear hS hBl
        rcases hor with ⟨hne, hsc⟩ | ⟨rfl, hn, hsc⟩
        · have hne2 : (er != 0) = true := by simpa using hne
          have Hne := Aside0.mk hne
          have Hsc := Aside0.mk hsc
          clear hne hsc
          have hb3 : w1.heap[w.heap.size]? = _ := (HBl.out.block _ (by have := Hg.out; omega)).trans B3.out
          have hb4 : w1.heap[g4]? = _ := (HBl.out.block _ (by have := Hg.out; omega)).trans B4.out
          have hB1 : Below w.heap.size w w1 := HB.out.trans ⟨HBl.out.os, HBl.out.tape, HBl.out.output, HBl.out.size, fun k hk => HBl.out.block k (by have := Hg.out; omega)⟩
          obtain ⟨vs1, hbk1, hT1⟩ := Hsc.out
          clear d0 d1 d2 d3 e30 e31 e40 e41 e42 f30 f31 f40 f41 f42
          have d0 := cell_of hbk1 0 _ rfl
          have d1 := cell_of hbk1 1 _ rfl
          have e30 := cell_of hb3 0 _ rfl
          have e31 := cell_of hb3 1 _ rfl
          have e40 := cell_of hb4 0 _ rfl
          have e41 := cell_of hb4 1 _ rfl
          have e42 := cell_of hb4 2 _ rfl
          have f30 := blk_frozen hb3 0
          have f31 := blk_frozen hb3 1
          have f40 := blk_frozen hb4 0
          have f41 := blk_frozen hb4 1
          have f42 := blk_frozen hb4 2
          go_wp2_with fail
          go_region
          all_goals go_wp2_with fail
          have K3 := blk_drew (blk_far (blk_far (blk_far (blk_put (blk_put hb3 0 (.int .i64 0) rfl) 1 (.int .i64 0) rfl) (p := ⟨g4, 0, none⟩) n1 (.int .i64 er)) (p := ⟨g4, 1, none⟩) n1 (.int .i64 l)) (p := ⟨g4, 2, none⟩) n1 (.int .i64 c))
          have K4 := blk_drew (blk_put (blk_put (blk_put (blk_far (blk_far hb4 (p := ⟨w.heap.size, 0, none⟩) n2 (.int .i64 0)) (p := ⟨w.heap.size, 1, none⟩) n2 (.int .i64 0)) 0 (.int .i64 er) rfl) 1 (.int .i64 l) rfl) 2 (.int .i64 c) rfl)
          have m3 : w.heap.size < b := by have := Hg.out; omega
          have m4 : g4 < b := by have := Hg.out; omega
          have m5 : w.heap.size ≤ g4 := by have := Hg.out; omega
          refine bodyPost_ret (results_list (rs := [.tmp 2, .cell 3 26, .cell 4 29]) rfl (by simp) (.tmp (.cell w.heap.size 26 #[.int .i64 0, .int .i64 0] (0, 0) _ rfl K3 Tryd.underlying26 rfl (by kernel_rfl) (.cell g4 29 #[.int .i64 er, .int .i64 l, .int .i64 c] (0, 0) _ rfl K4 Tryd.underlying29 rfl (by kernel_rfl) .nil)))) rfl ?_
          exact ⟨_, ([], 0, 0, er, l, c), rfl, .inr ⟨Hs.out, HL.out _ (.err s' (l, c) out k n er Hz.out HSt.out Hne.out)⟩, Kd.R_nil _ _ _ _ _, below_drew1 (below_setCell (below_setCell (below_setCell (below_setCell (below_setCell hB1 (Nat.le_refl _) _) (Nat.le_refl _) _) m5 _) m5 _) m5 _)⟩
        · have Hn := Aside0.mk hn
          have Hsc := Aside0.mk hsc
          clear hn hsc
          go_wp2_with fail
          go_roundg (s'.extract n s'.size).size
          case measure =>
            have h1 := HSt.out.pos Hz.out
            have h2 := Hn.out
            have h3 := hk.out
            have h4 := Hz.out
            rw [h3, ext_size _ _ h2]
            omega
          case rel =>
            have h1 := HSt.out.pos Hz.out
            have h2 := Hn.out
            exact ⟨s'.extract n s'.size, _, _, _, ⟨rfl⟩, ⟨fun r hr => HL.out r (.step s' (l, c) out k n r Hz.out HSt.out Hn.out hr)⟩, Hsc, ⟨by have := HO.out; rw [ext_size _ _ h2]; split <;> simp <;> omega⟩,
              ⟨(HBl.out.block _ (by have := Hg.out; omega)).trans B3.out⟩, ⟨(HBl.out.block _ (by have := Hg.out; omega)).trans B4.out⟩, ⟨HB.out.trans ⟨HBl.out.os, HBl.out.tape, HBl.out.output, HBl.out.size, fun k hk => HBl.out.block k (by have := Hg.out; omega)⟩⟩⟩
end Go.Proofs.YtkbbliicijnpjaaDoor.Lx
