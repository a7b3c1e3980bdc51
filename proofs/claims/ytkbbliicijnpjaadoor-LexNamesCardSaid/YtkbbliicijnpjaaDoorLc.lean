/- lex: pass. -/
import Derived.Test.YtkbbliicijnpjaaDoorLb
import Derived.Test.YtkbbliicijnpjaaDoorMap
import Derived.Lib.ConvBytes
namespace Go.Proofs.YtkbbliicijnpjaaDoor.Lx
open Go.RowKit Go.Proofs.YtkbbliicijnpjaaDoorW.PrintWords Go.Proofs.YtkbbliicijnpjaaDoorW.PrintLast Go.Proofs.YtkbbliicijnpjaaDoorW.PrintMore
open Go.Proofs.YtkbbliicijnpjaaDoor.Base Go.Proofs.YtkbbliicijnpjaaDoor.PLexTokens Go.Proofs.YtkbbliicijnpjaaDoor.PLexNames Go.Proofs.YtkbbliicijnpjaaDoor.Map
set_option linter.unusedVariables false

/-- one octet on -/
def stepP (c : Int) (p : Int × Int) : Int × Int := if c = 10 then (wrap64 (p.1 + 1), 1) else (p.1, wrap64 (p.2 + 1))
/-- n octets on -/
def placeF (s : ByteArray) (p : Int × Int) : Nat → Int × Int
  | 0 => p
  | n + 1 => stepP (bt s (n : Int)) (placeF s p n)

theorem bt_list (s : ByteArray) (n j : Nat) (hj : j < n) (hn : n ≤ s.size) : ((((s.extract 0 n).data.toList.getD j 0).toNat : Nat) : Int) = bt s (j : Int) := by
  have h1 : j < s.size := by omega
  rw [Lib.extract_data, List.getD, List.getElem?_take, if_pos (by omega), List.getElem?_drop, Nat.zero_add]
  have h2 : s.data.toList[j]? = some s[j] := by
    rw [List.getElem?_eq_getElem (by rw [← Lib.size_eq]; exact h1)]
    simp
    rfl
  rw [h2]
  exact bt_at s (j : Int) h1

set_option maxHeartbeats 2000000 in
set_option maxRecDepth 100000 in
theorem pass_any (b : Nat) (l c : Int) (s : ByteArray) (vs : Value) (n : Nat) (w : World) (hb : w.heap[b]? = some (.cells #[.int .i64 l, .int .i64 c, .string s, vs] 81 (0, 0))) (hn : n ≤ s.size) (hs : s.size ≤ 100000) :
    Calls Tryd.prog 64 #[.pointer (some ⟨b, 0, none⟩), .int .i64 (n : Int)] w fun e w' => e = .returned (.tuple #[]) ∧ w'.heap[b]? = some (.cells #[.int .i64 (placeF s (l, c) n).1, .int .i64 (placeF s (l, c) n).2, .string (s.extract n s.size), vs] 81 (0, 0)) ∧ Chg (fun k => k = b) w w' := by
  have hne : b ≠ w.heap.size := Nat.ne_of_lt (blk_lt hb)
  have hne' : w.heap.size ≠ b := fun e => hne e.symm
  have c2 : w.cell? ⟨b, 2, none⟩ = some (.string s) := cell_of hb 2 _ rfl
  have hsz : (s.extract 0 n).size = n := by
    rw [Lib.size_eq, Lib.extract_data, List.length_take, List.length_drop, ← Lib.size_eq]
    omega
  have hsl1 : ∀ w, (Instr.slice 9 (.string s) none (some (.int .i64 (n : Int))) none).run Tryd.prog w = .ok (.string (s.extract 0 n)) w := fun w => by
    rw [run_slice_string_to_if w 9 s .i64 _ Tryd.underlying9, if_pos ⟨by omega, by omega⟩]
    rfl
  have hsl2 : ∀ w, (Instr.slice 9 (.string s) (some (.int .i64 (n : Int))) none none).run Tryd.prog w = .ok (.string (s.extract n s.size)) w := fun w => by
    rw [run_slice_string_from_if w 9 s .i64 _ Tryd.underlying9, if_pos ⟨by omega, by omega⟩]
    rfl
  have Hb := Aside0.mk hb
  have Hs := Aside0.mk hs
  have Hn := Aside0.mk hn
  have Hsz := Aside0.mk hsz
  clear hb hs hn hsz
  go_enter Tryd.func64, Tryd.ntmps64
  go_wp2
  rw [Lib.run_convert_string_bytes w 9 104 5 (s.extract 0 n) (u := .string) Tryd.underlying9 Tryd.underlying104 Tryd.underlying5]
  simp only [Result.andThen]
  rw [Oper.upon_value, Hsz.out]
  have hB0 : Aside0 (Below w.heap.size w (Lib.bytesWorld w 5 (s.extract 0 n))) := ⟨bytes_below (Below.refl _ _) (Nat.le_refl _) _ _⟩
  have hR0 : Aside0 (∀ j, j < n → (Lib.bytesWorld w 5 (s.extract 0 n)).cell? ⟨w.heap.size, j, none⟩ = some (.int .u8 (bt s (j : Int)))) := ⟨fun j hj => by
    rw [Lib.bytesWorld_cell w 5 _ j (by rw [Hsz.out]; exact hj), bt_list s n j hj Hn.out]⟩
  generalize Lib.bytesWorld w 5 (s.extract 0 n) = W1 at *
  generalize grownCap w n 0 5 = cap at *
  go_wp2_with fail
  go_loopw [14] (fun I wr => ∃ i : Nat, I = .int .i64 (i : Int) ∧ i ≤ n ∧ Aside0 (wr.heap[b]? = some (.cells #[.int .i64 (placeF s (l, c) i).1, .int .i64 (placeF s (l, c) i).2, .string s, vs] 81 (0, 0))) ∧ Aside0 (∀ j, j < n → wr.cell? ⟨w.heap.size, j, none⟩ = some (.int .u8 (bt s (j : Int)))) ∧ Aside0 (Chg (fun k => k = b) w wr)) (fun I _ => n - (intOf I).toNat)
  case atStart => exact ⟨0, rfl, Nat.zero_le _, ⟨(hB0.out.block b (blk_lt Hb.out)).trans Hb.out⟩, hR0, ⟨Chg.of_below hB0.out _⟩⟩
  case round =>
    obtain ⟨i, rfl, hi, BK, hR, hC⟩ := hrel
    obtain ⟨l1, hl1⟩ : ∃ l1, (placeF s (l, c) i).1 = l1 := ⟨_, rfl⟩
    obtain ⟨c1, hc1⟩ : ∃ c1, (placeF s (l, c) i).2 = c1 := ⟨_, rfl⟩
    have BK0 := BK.out
    rw [hl1, hc1] at BK0
    have HP : Aside0 (placeF s (l, c) i = (l1, c1)) := ⟨by rw [← hl1, ← hc1]⟩
    have d0 := cell_of BK0 0 _ rfl
    have d1 := cell_of BK0 1 _ rfl
    have d2 := cell_of BK0 2 _ rfl
    have f0 := blk_frozen BK0 0
    have f1 := blk_frozen BK0 1
    have f2 := blk_frozen BK0 2
    have BK1 := Aside0.mk BK0
    clear hl1 hc1 BK0 BK
    by_cases hin : i < n
    · have hnb : decide ((i : Int) < (n : Int)) = true := decide_eq_true (by omega)
      have hnc : decide (i < n) = true := decide_eq_true hin
      have i0 : 0 ≤ (i : Int) := by omega
      have i1 : (i : Int) < (n : Int) := by omega
      have hx := hR.out i hin
      have hw : Aside0 (wrap64 ((i : Int) + 1) = ((i + 1 : Nat) : Int)) := ⟨by have := Hs.out; have := Hn.out; unfold wrap64; omega⟩
      have Hin := Aside0.mk hin
      clear hin
      by_cases hp : bt s (i : Int) = 10
      · have hq : (bt s (i : Int) == 10) = true := by simpa using hp
        have Hp := Aside0.mk hp
        clear hp
        go_wp2_with fail
        go_roundw
        case rel =>
          have e : placeF s (l, c) (i + 1) = (wrap64 (l1 + 1), 1) := by simp [placeF, HP.out, stepP, Hp.out]
          exact ⟨i + 1, by rw [hw.out], Hin.out, ⟨by rw [e]; exact blk_put (blk_put (blk_put BK1.out 1 _ rfl) 0 _ rfl) 1 _ rfl⟩, ⟨fun j hj => by rw [World.cell?_setCell_far _ _ _ _ hne, World.cell?_setCell_far _ _ _ _ hne, World.cell?_setCell_far _ _ _ _ hne]; exact hR.out j hj⟩, ⟨((hC.out.then_ (Chg.setCell _ (p := ⟨b, 1, none⟩) (F := fun k => k = b) rfl _) (fun k hk => .inl hk)).then_ (Chg.setCell _ (p := ⟨b, 0, none⟩) (F := fun k => k = b) rfl _) (fun k hk => .inl hk)).then_ (Chg.setCell _ (p := ⟨b, 1, none⟩) (F := fun k => k = b) rfl _) (fun k hk => .inl hk)⟩⟩
        case measure => exact msr hw.out Hin.out
      · have hq : (bt s (i : Int) == 10) = false := by simpa using hp
        have Hp := Aside0.mk hp
        clear hp
        go_wp2_with fail
        go_roundw
        case rel =>
          have e : placeF s (l, c) (i + 1) = (l1, wrap64 (c1 + 1)) := by simp [placeF, HP.out, stepP, Hp.out]
          exact ⟨i + 1, by rw [hw.out], Hin.out, ⟨by rw [e]; exact blk_put BK1.out 1 _ rfl⟩, ⟨fun j hj => by rw [World.cell?_setCell_far _ _ _ _ hne]; exact hR.out j hj⟩, ⟨hC.out.then_ (Chg.setCell _ (p := ⟨b, 1, none⟩) (F := fun k => k = b) rfl _) (fun k hk => .inl hk)⟩⟩
        case measure => exact msr hw.out Hin.out
    · have hnb : decide ((i : Int) < (n : Int)) = false := decide_eq_false (by omega)
      have hnc : decide (i < n) = false := decide_eq_false hin
      have e : i = n := by omega
      subst e
      have HP2 := HP.out
      clear hin
      go_wp2_with fail
      go_end0
      exact ⟨rfl, by rw [HP2]; exact blk_put BK1.out 2 _ rfl, hC.out.then_ (Chg.setCell _ (p := ⟨b, 2, none⟩) (F := fun k => k = b) rfl _) (fun k hk => .inl hk)⟩
end Go.Proofs.YtkbbliicijnpjaaDoor.Lx
