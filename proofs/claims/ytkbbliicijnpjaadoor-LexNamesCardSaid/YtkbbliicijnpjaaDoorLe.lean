/- lex: word, number (printed by gen_le.py). -/
import Derived.Test.YtkbbliicijnpjaaDoorLd
namespace Go.Proofs.YtkbbliicijnpjaaDoor.Lx
open Go.RowKit Go.Proofs.YtkbbliicijnpjaaDoorW.PrintWords Go.Proofs.YtkbbliicijnpjaaDoorW.PrintLast Go.Proofs.YtkbbliicijnpjaaDoorW.PrintMore
open Go.Proofs.YtkbbliicijnpjaaDoor.Base Go.Proofs.YtkbbliicijnpjaaDoor.PLexTokens Go.Proofs.YtkbbliicijnpjaaDoor.PLexNames Go.Proofs.YtkbbliicijnpjaaDoor.Map
set_option linter.unusedVariables false

/-- what stands in the scanner's block -/
structure Scn (w : World) (b : Nat) (l c : Int) (s : ByteArray) (out : List S33) : Prop where
  mk :: (out : ∃ vs, w.heap[b]? = some (.cells #[.int .i64 l, .int .i64 c, .string s, vs] 81 (0, 0)) ∧ Toks w b vs out)
theorem Scn.below {w w1 : World} {b : Nat} {l c : Int} {s : ByteArray} {out : List S33} (h : Scn w b l c s out) (hb : Below w.heap.size w w1) : Scn w1 b l c s out := by
  obtain ⟨vs, h1, h2⟩ := h
  exact ⟨vs, blk_belowL h1 hb, h2.below hb⟩
theorem Scn.lt {w : World} {b : Nat} {l c : Int} {s : ByteArray} {out : List S33} (h : Scn w b l c s out) : b < w.heap.size := by
  obtain ⟨vs, h1, h2⟩ := h
  exact blk_lt h1
theorem below_low {w w1 : World} {b : Nat} (h : Below w.heap.size w w1) (hb : b ≤ w.heap.size) : Below b w w1 := ⟨h.os, h.tape, h.output, h.size, fun k hk => h.block k (by omega)⟩

set_option maxHeartbeats 2000000 in
set_option maxRecDepth 100000 in
theorem word_any (b : Nat) (l c : Int) (s : ByteArray) (out : List S33) (w : World) (h : Scn w b l c s out) (hs : s.size ≤ 100000) (ho : out.length ≤ 1000000) :
    Calls Tryd.prog 67 #[.pointer (some ⟨b, 0, none⟩)] w fun e w' => ∃ n : Nat, Run (fun c => letB c || digB c) s n ∧ ((32 < n ∧ e = .returned (.int .i64 13) ∧ Below w.heap.size w w') ∨
      (n ≤ 32 ∧ e = .returned (.int .i64 0) ∧ Scn w' b (placeF s (l, c) n).1 (placeF s (l, c) n).2 (s.extract n s.size) (out ++ [⟨0, s.extract 0 n, ⟨l, c⟩⟩]) ∧ Below b w w')) := by
  obtain ⟨vs, hb, hT⟩ := h
  have Hb := Aside0.mk hb
  have HT := Aside0.mk hT
  have Hs := Aside0.mk hs
  have Ho := Aside0.mk ho
  have Hbl := Aside0.mk (Nat.le_of_lt (blk_lt hb))
  clear hb hT hs ho
  go_enter Tryd.func67, Tryd.ntmps67
  go_wp2_with fail
  refine (while96_any b _ _ s vs _ Hb.out Hs.out).mono ?_
  rintro e w1 ⟨n, rfl, hr, hB⟩
  have Hr := Aside0.mk hr
  clear hr
  by_cases hn : 32 < n
  · have hnb : decide ((n : Int) > 32) = true := decide_eq_true (by omega)
    have hnc : decide ((32 : Int) < (n : Int)) = true := decide_eq_true (by omega)
    have hnd : decide (32 < n) = true := decide_eq_true hn
    have Hn := Aside0.mk hn
    clear hn
    go_wp2_with fail
    go_ret
    exact ⟨n, Hr.out, .inl ⟨Hn.out, rfl, hB⟩⟩
  · have hnb : decide ((n : Int) > 32) = false := decide_eq_false (by omega)
    have hnc : decide ((32 : Int) < (n : Int)) = false := decide_eq_false (by omega)
    have hnd : decide (32 < n) = false := decide_eq_false hn
    have Hn := Aside0.mk (Nat.le_of_not_lt hn)
    clear hn
    go_wp2_with fail
    refine (put_any b l c s vs out 0 n _ (blk_belowL Hb.out hB) (HT.out.below hB) Hr.out.le Hs.out Ho.out).mono ?_
    rintro e w2 ⟨vs2, rfl, h2, hT2, hB2⟩
    have H2 := Aside0.mk h2
    have HT2 := Aside0.mk hT2
    clear h2 hT2
    go_wp2_with fail
    go_ret
    exact ⟨n, Hr.out, .inr ⟨Hn.out, rfl, ⟨vs2, H2.out, HT2.out⟩, (below_low hB Hbl.out).trans hB2⟩⟩

set_option maxHeartbeats 2000000 in
set_option maxRecDepth 100000 in
theorem number_any (b : Nat) (l c : Int) (s : ByteArray) (out : List S33) (w : World) (h : Scn w b l c s out) (hs : s.size ≤ 100000) (ho : out.length ≤ 1000000) :
    Calls Tryd.prog 68 #[.pointer (some ⟨b, 0, none⟩)] w fun e w' => ∃ n : Nat, Run (fun c => digB c) s n ∧ ((3 < n ∧ e = .returned (.int .i64 13) ∧ Below w.heap.size w w') ∨
      (n ≤ 3 ∧ e = .returned (.int .i64 0) ∧ Scn w' b (placeF s (l, c) n).1 (placeF s (l, c) n).2 (s.extract n s.size) (out ++ [⟨1, s.extract 0 n, ⟨l, c⟩⟩]) ∧ Below b w w')) := by
  obtain ⟨vs, hb, hT⟩ := h
  have Hb := Aside0.mk hb
  have HT := Aside0.mk hT
  have Hs := Aside0.mk hs
  have Ho := Aside0.mk ho
  have Hbl := Aside0.mk (Nat.le_of_lt (blk_lt hb))
  clear hb hT hs ho
  go_enter Tryd.func68, Tryd.ntmps68
  go_wp2_with fail
  refine (while90_any b _ _ s vs _ Hb.out Hs.out).mono ?_
  rintro e w1 ⟨n, rfl, hr, hB⟩
  have Hr := Aside0.mk hr
  clear hr
  by_cases hn : 3 < n
  · have hnb : decide ((n : Int) > 3) = true := decide_eq_true (by omega)
    have hnc : decide ((3 : Int) < (n : Int)) = true := decide_eq_true (by omega)
    have hnd : decide (3 < n) = true := decide_eq_true hn
    have Hn := Aside0.mk hn
    clear hn
    go_wp2_with fail
    go_ret
    exact ⟨n, Hr.out, .inl ⟨Hn.out, rfl, hB⟩⟩
  · have hnb : decide ((n : Int) > 3) = false := decide_eq_false (by omega)
    have hnc : decide ((3 : Int) < (n : Int)) = false := decide_eq_false (by omega)
    have hnd : decide (3 < n) = false := decide_eq_false hn
    have Hn := Aside0.mk (Nat.le_of_not_lt hn)
    clear hn
    go_wp2_with fail
    refine (put_any b l c s vs out 1 n _ (blk_belowL Hb.out hB) (HT.out.below hB) Hr.out.le Hs.out Ho.out).mono ?_
    rintro e w2 ⟨vs2, rfl, h2, hT2, hB2⟩
    have H2 := Aside0.mk h2
    have HT2 := Aside0.mk hT2
    clear h2 hT2
    go_wp2_with fail
    go_ret
    exact ⟨n, Hr.out, .inr ⟨Hn.out, rfl, ⟨vs2, H2.out, HT2.out⟩, (below_low hB Hbl.out).trans hB2⟩⟩
end Go.Proofs.YtkbbliicijnpjaaDoor.Lx
