/- lex: octets of texts laid one behind the other; steps of known texts. -/
import Derived.Test.YtmaoadlighjkpaaLm
import Derived.Lib.SmallJoins
namespace Go.Proofs.Ytmaoadlighjkpaa.Lx
open Go.RowKit Go.Proofs.YtmaoadlighjkpaaW.PrintWords Go.Proofs.YtmaoadlighjkpaaW.PrintLast Go.Proofs.YtmaoadlighjkpaaW.PrintMore
open Go.Proofs.Ytmaoadlighjkpaa.Base Go.Proofs.Ytmaoadlighjkpaa.PLexTokens Go.Proofs.Ytmaoadlighjkpaa.Map
set_option linter.unusedVariables false

theorem bt_get (s : ByteArray) (j : Nat) : bt s (j : Int) = (((s.data.toList[j]?).getD 0).toNat : Int) := by
  by_cases h : j < s.size
  · rw [get_list s j h]
    exact (bt_at s (j : Int) h).symm
  · have h1 : s.data.toList[j]? = none := List.getElem?_eq_none (by rw [← Lib.size_eq]; omega)
    rw [h1]
    unfold bt
    rw [dif_neg (by simpa using h)]
    rfl
theorem app_data (a b : ByteArray) : (a ++ b).data.toList = a.data.toList ++ b.data.toList := Go.Joins.data_append a b
theorem app_size (a b : ByteArray) : (a ++ b).size = a.size + b.size := by
  rw [Lib.size_eq, Lib.size_eq a, Lib.size_eq b, app_data, List.length_append]
theorem app_assoc (a b c : ByteArray) : a ++ b ++ c = a ++ (b ++ c) := by
  apply ba_ext
  simp only [app_data, List.append_assoc]
theorem bt_left (a b : ByteArray) (j : Nat) (h : j < a.size) : bt (a ++ b) (j : Int) = bt a (j : Int) := by
  rw [bt_get, bt_get, app_data, List.getElem?_append_left (by rw [← Lib.size_eq]; exact h)]
theorem bt_right (a b : ByteArray) (j : Nat) : bt (a ++ b) ((a.size + j : Nat) : Int) = bt b (j : Int) := by
  rw [bt_get, bt_get, app_data, List.getElem?_append_right (by rw [← Lib.size_eq]; omega), ← Lib.size_eq, Nat.add_sub_cancel_left]
theorem ext_right (a b : ByteArray) : (a ++ b).extract a.size (a ++ b).size = b := by
  apply ba_ext
  rw [Lib.extract_data, app_data, app_size, Lib.size_eq a, List.drop_left, List.take_of_length_le]
  rw [← Lib.size_eq]
  omega
theorem ext_left (a b : ByteArray) : (a ++ b).extract 0 a.size = a := by
  apply ba_ext
  rw [Lib.extract_data, app_data, Lib.size_eq a, List.drop_zero, Nat.sub_zero, List.take_left]

/-- one step over the first part of a text -/
theorem lex_app {a b : ByteArray} {p : Int × Int} {out : List S116} {k : Int} {r : Out} (ha : 0 < a.size) (hS : StepS (a ++ b) k a.size 0) (h : LexS b (placeF (a ++ b) p a.size) (if 0 ≤ k then out ++ [⟨k, a, ⟨p.1, p.2⟩⟩] else out) r) : LexS (a ++ b) p out r := by
  refine .step _ p out k a.size r (by rw [app_size]; omega) hS (by rw [app_size]; omega) ?_
  rw [ext_right, ext_left]
  exact h

/-! ### a text of noughts, and an x -/
theorem nul_data (n : Nat) : (strOfNums (List.replicate n 0) ++ ({ data := #[120] } : ByteArray)).data.toList = List.replicate n 0 ++ [120] := by
  rw [app_data]
  congr 1
  show ((List.replicate n (0 : Int)).map fun n => UInt8.ofNat n.toNat).toArray.toList = _
  rw [List.map_replicate]
  rfl
theorem nul_size (n : Nat) : (strOfNums (List.replicate n 0) ++ ({ data := #[120] } : ByteArray)).size = n + 1 := by
  rw [Lib.size_eq, nul_data, List.length_append, List.length_replicate]
  rfl
theorem nul_bt (n : Nat) (hn : 0 < n) : bt (strOfNums (List.replicate n 0) ++ ({ data := #[120] } : ByteArray)) 0 = 0 := by
  have := bt_get (strOfNums (List.replicate n 0) ++ ({ data := #[120] } : ByteArray)) 0
  rw [nul_data] at this
  rw [List.getElem?_append_left (by simpa using hn), List.getElem?_replicate, if_pos hn] at this
  exact this
theorem nul_sp : spB 0 = false := by kernel_rfl
theorem nul_let : letB 0 = false := by kernel_rfl
theorem nul_dig : digB 0 = false := by kernel_rfl
theorem nul_sg : sgB 0 = false := by kernel_rfl
theorem nul_tok (n : Nat) (hn : 0 < n) (hs : n < 20000) {r : Out} (h : TokS (strOfNums (List.replicate n 0) ++ ({ data := #[120] } : ByteArray)) r) : r = ([], 0, 0, 10, 1, 1) := by
  have hz := nul_size n
  have hb := nul_bt n hn
  generalize strOfNums (List.replicate n 0) ++ ({ data := #[120] } : ByteArray) = s at *
  refine tok_one h (.inr ⟨by omega, .err s (1, 1) [] (-1) 1 10 (by omega) (.bad (by rw [hb]; exact nul_sp) (by rw [hb]; decide) (by rw [hb]; exact nul_let) (by rw [hb]; exact nul_dig) ?_ (by rw [hb]; exact nul_sg)) (by decide)⟩)
  cases hp : preB s with
  | false => rfl
  | true =>
    have := (pre_iff s).1 hp
    omega
theorem nul_long (n : Nat) (hn : 20000 ≤ n) {r : Out} (h : TokS (strOfNums (List.replicate n 0) ++ ({ data := #[120] } : ByteArray)) r) : r = ([], 0, 0, 13, 1, 1) := by
  have hz := nul_size n
  rcases h with ⟨_, h⟩ | ⟨h, _⟩
  · exact h
  · omega
theorem x_f : (winnowerref05_Tokens.f 40 ({ data := #[120] } : ByteArray)).map (fun r => (r.1.length, r.2)) = some (1, (1, 2, 0, 0, 0)) := by kernel_rfl
theorem x_tok {r : Out} (h : TokS (strOfNums (List.replicate 0 0) ++ ({ data := #[120] } : ByteArray)) r) : ∃ l, r = (l, 1, 2, 0, 0, 0) ∧ l.length = 1 := by
  have e : strOfNums (List.replicate 0 0) ++ ({ data := #[120] } : ByteArray) = ({ data := #[120] } : ByteArray) := ba_ext (nul_data 0)
  rw [e] at h
  have h1 := x_f
  rw [tok_ref h 40 (by decide)] at h1
  obtain ⟨l, q⟩ := r
  simp only [Option.map_some, Option.some.injEq, Prod.mk.injEq] at h1
  exact ⟨l, by rw [h1.2], h1.1⟩

/-- make([]byte, n), and its text -/
theorem mk_str (w : World) (n : Nat) (hn : n ≤ 30000) : (Instr.makeSlice 114 (.int .i64 (n : Int)) (.int .i64 (n : Int))).run Try.prog w = .ok (.slice (some ⟨w.heap.size, 0, none⟩) n n) (w.alloc (.cells (madeCells #[.int .u8 0] n) 5)) ∧
    (convert 114 9 (.slice (some ⟨w.heap.size, 0, none⟩) n n)).run Try.prog (w.alloc (.cells (madeCells #[.int .u8 0] n) 5)) = .ok (.string (strOfNums (List.replicate n 0))) (w.alloc (.cells (madeCells #[.int .u8 0] n) 5)) := by
  have hi5 : (Try.prog.info? 5).map (fun i => (i.zero, i.size, i.bytes)) = some (some (.int .u8 0), 1, 1) := by kernel_rfl
  obtain ⟨i0, hi, hzz⟩ := Option.map_eq_some_iff.1 hi5
  simp only [Prod.mk.injEq] at hzz
  obtain ⟨hz0, hz1, hz2⟩ := hzz
  have h1 := run_make (P := Try.prog) w 114 5 i0 (.int .u8 0) Try.underlying114 hi hz0 .i64 .i64 (n : Int) (n : Int) (by omega) (Int.le_refl _) (by rw [hz2]; omega) (by omega)
  simp only [Int.toNat_natCast, hz1, Nat.mul_one] at h1
  refine ⟨h1, own_string (e' := 5) (base := w.heap.size) (n := n) Try.underlying114 Try.underlying5 Try.underlying9 ?_⟩
  have h2 := World.ownsRow_lit (size := 1) w (madeCells #[.int .u8 0] n) n (e := 5) (Nat.le_refl _) (by show n ≤ 9223372036854775807; omega) (by rw [size_madeCells, Nat.mul_one])
  rw [toList_madeCells_one] at h2
  have e : List.replicate n (Value.int .u8 0) = nums .u8 (List.replicate n 0) := by simp [nums]
  rw [e] at h2
  exact h2
end Go.Proofs.Ytmaoadlighjkpaa.Lx
