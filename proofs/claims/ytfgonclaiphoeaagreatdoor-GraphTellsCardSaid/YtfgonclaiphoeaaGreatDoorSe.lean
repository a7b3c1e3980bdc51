/- ints.Set: how it lies; Of, many, the list of a set that stands in a list. -/
import Derived.Test.YtfgonclaiphoeaaGreatDoorOy
namespace Go.Proofs.YtfgonclaiphoeaaGreatDoor.Se
set_option linter.unusedVariables false
open Go.RowKit Go.Proofs.YtfgonclaiphoeaaGreatDoorW.PrintWords Go.Proofs.YtfgonclaiphoeaaGreatDoorW.PrintLast Go.Proofs.YtfgonclaiphoeaaGreatDoorW.PrintMore
open Go.Proofs.YtfgonclaiphoeaaGreatDoor.Base Go.Proofs.YtfgonclaiphoeaaGreatDoor.Map Go.Proofs.YtfgonclaiphoeaaGreatDoor.Sl Go.Proofs.YtfgonclaiphoeaaGreatDoor.Ow

theorem info84 : (Tryz.prog.info? 84).map (fun i => (i.zero, i.size, i.bytes)) = some (some (.int .u64 0), 1, 8) := by kernel_rfl
theorem info83 : (Tryz.prog.info? 83).map (fun i => (i.zero, i.size, i.bytes)) = some (some (.agg #[.slice none 0 0, .slice none 0 0, .int .i64 0]), 3, 56) := by kernel_rfl

/-- a number of a set -/
def okN (x : Int) : Prop := 0 ≤ x ∧ x < 1048576
/-- rows of bits that the call owns -/
structure OwU (w : World) (F : Nat → Prop) (v : Value) (ws : List Nat) : Prop where mk :: (out : Kd.R (Kd.int .u64) 84 w 0 F v (ws.map fun (n : Nat) => (n : Int)))
/-- The set in block p, its blocks in F: in a list, or in rows of bits. -/
structure SetF (w : World) (F : Nat → Prop) (p : Nat) (l : List Int) : Prop where
  mk :: (out : ∃ vl vr : Value, w.heap[p]? = some (.cells #[vl, vr, .int .i64 (l.length : Int)] 83 (0, 0)) ∧ F p ∧ Srt l ∧ (∀ x ∈ l, okN x) ∧
    ((vr = .slice none 0 0 ∧ OwF w F vl l ∧ l.length ≤ 16) ∨
     (vl = .slice none 0 0 ∧ ∃ (ad : Addr) (cap : Nat) (ws : List Nat), vr = .slice (some ad) ws.length cap ∧ OwU w F vr ws ∧ 1 ≤ ws.length ∧ ws.length ≤ 32768 ∧ Bits ws l)))
section
variable {w w1 : World} {F F' : Nat → Prop} {v : Value} {ws : List Nat} {p : Nat} {l : List Int}
theorem OwU.mono (h : OwU w F v ws) (hF : ∀ k, F k → F' k) : OwU w F' v ws := ⟨Kd.R_mono h.out hF⟩
theorem OwU.below (h : OwU w F v ws) (hb : Below w.heap.size w w1) : OwU w1 F v ws := ⟨Kd.R_below h.out hb⟩
theorem OwU.chg {G : Nat → Prop} (h : OwU w F v ws) (hC : Chg G w w1) (hd : ∀ k, F k → ¬ G k) : OwU w1 F v ws := ⟨Kd.R_step h.out (fun k hk hlt => hC.block k hlt (hd k hk))⟩
theorem OwU.bound (h : OwU w F v ws) : OwU w (fun k => F k ∧ k < w.heap.size) v ws := ⟨Kd.R_mono (Kd.R_bound h.out) (fun k hk => ⟨hk.1, hk.2.2.1⟩)⟩
theorem OwU.far {g t : Nat} {cells : Array Value} (h : OwU w F v ws) (hb : w.heap[g]? = some (.cells cells t (0, 0))) (ht : 84 ≠ t) (j : Nat) (u : Value) : OwU (w.setCell ⟨g, j, none⟩ u) F v ws :=
  ⟨Kd.R_set h.out hb (fun q hq => by rcases List.mem_cons.1 hq with rfl | hq; exact ht; cases hq) j u⟩
theorem SetF.mono (h : SetF w F p l) (hF : ∀ k, F k → F' k) : SetF w F' p l := by
  obtain ⟨vl, vr, h1, h2, h3, h4, h5⟩ := h
  refine ⟨vl, vr, h1, hF _ h2, h3, h4, ?_⟩
  rcases h5 with ⟨a, b, c⟩ | ⟨a, ad, cap, ws, b, c, d⟩
  · exact .inl ⟨a, b.mono hF, c⟩
  · exact .inr ⟨a, ad, cap, ws, b, c.mono hF, d⟩
theorem SetF.chg {G : Nat → Prop} (h : SetF w F p l) (hC : Chg G w w1) (hd : ∀ k, F k → ¬ G k) : SetF w1 F p l := by
  obtain ⟨vl, vr, h1, h2, h3, h4, h5⟩ := h
  refine ⟨vl, vr, hC.blk h1 (hd p h2), h2, h3, h4, ?_⟩
  rcases h5 with ⟨a, b, c⟩ | ⟨a, ad, cap, ws, b, c, d⟩
  · exact .inl ⟨a, b.chg hC hd, c⟩
  · exact .inr ⟨a, ad, cap, ws, b, c.chg hC hd, d⟩
theorem SetF.below (h : SetF w F p l) (hb : Below w.heap.size w w1) : SetF w1 F p l := h.chg (Chg.of_below hb (fun _ => False)) (fun _ _ h => h)
theorem SetF.lt (h : SetF w F p l) : p < w.heap.size := by obtain ⟨vl, vr, h1, _⟩ := h; exact blk_lt h1
theorem SetF.bound (h : SetF w F p l) : SetF w (fun k => F k ∧ k < w.heap.size) p l := by
  have hp := h.lt
  obtain ⟨vl, vr, h1, h2, h3, h4, h5⟩ := h
  refine ⟨vl, vr, h1, ⟨h2, hp⟩, h3, h4, ?_⟩
  rcases h5 with ⟨a, b, c⟩ | ⟨a, ad, cap, ws, b, c, d⟩
  · exact .inl ⟨a, b.bound, c⟩
  · exact .inr ⟨a, ad, cap, ws, b, c.bound, d⟩
theorem SetF.srt (h : SetF w F p l) : Srt l := by obtain ⟨vl, vr, h1, h2, h3, _⟩ := h; exact h3
theorem SetF.ok (h : SetF w F p l) : ∀ x ∈ l, okN x := by obtain ⟨vl, vr, h1, h2, h3, h4, _⟩ := h; exact h4
theorem SetF.len (h : SetF w F p l) : l.length ≤ 1048576 := srt_len h.srt (a := 0) (k := 1048576) (fun x hx => by have := h.ok x hx; unfold okN at this; omega)
end
set_option maxHeartbeats 1000000 in
theorem many_list (p : Nat) (vl vn : Value) (w : World) (hb : w.heap[p]? = some (.cells #[vl, .slice none 0 0, vn] 83 (0, 0))) :
    Calls Tryz.prog 43 #[.pointer (some ⟨p, 0, none⟩)] w fun e w' => e = .returned (.bool false) ∧ w = w' := by
  have q81 : ∀ (w : World) (a : Option Addr) (n c n' c' : Nat), (binOp .neq 81 (.slice a n c) (.slice none n' c')).run Tryz.prog w = .ok (.bool (!a.isNone)) w := fun w a n c n' c' => run_neq_slice_nil_any w _ _ a n c n' c' Tryz.underlying81
  have c1 : w.cell? ⟨p, 1, none⟩ = some (.slice none 0 0) := blk_cell hb 1
  go_enter Tryz.func43, Tryz.ntmps43
  go_wp2
  go_ret
  exact ⟨rfl, rfl⟩
set_option maxHeartbeats 1000000 in
theorem many_rows (p : Nat) (vl vn : Value) (ad : Addr) (n c : Nat) (w : World) (hb : w.heap[p]? = some (.cells #[vl, .slice (some ad) n c, vn] 83 (0, 0))) :
    Calls Tryz.prog 43 #[.pointer (some ⟨p, 0, none⟩)] w fun e w' => e = .returned (.bool true) ∧ w = w' := by
  have q81 : ∀ (w : World) (a : Option Addr) (n c n' c' : Nat), (binOp .neq 81 (.slice a n c) (.slice none n' c')).run Tryz.prog w = .ok (.bool (!a.isNone)) w := fun w a n c n' c' => run_neq_slice_nil_any w _ _ a n c n' c' Tryz.underlying81
  have c1 : w.cell? ⟨p, 1, none⟩ = some (.slice (some ad) n c) := blk_cell hb 1
  go_enter Tryz.func43, Tryz.ntmps43
  go_wp2
  go_ret
  exact ⟨rfl, rfl⟩
set_option maxHeartbeats 1000000 in
/-- Of no numbers -/
theorem of_any (w : World) : Calls Tryz.prog 25 #[.slice none 0 0] w fun e w' => ∃ p, e = .returned (.pointer (some ⟨p, 0, none⟩)) ∧ SetF w' (new w w') p [] ∧ Below w.heap.size w w' := by
  go_enter Tryz.func25, Tryz.ntmps25
  go_wp2
  go_loopw [5, 10] (fun _ i wr => i = .int .i64 0 ∧ wr = w.alloc (.cells #[.slice none 0 0, .slice none 0 0, .int .i64 0] 83)) (fun _ _ _ => 0)
  case atStart => exact ⟨rfl, rfl⟩
  case round =>
    obtain ⟨rfl, rfl⟩ := hrel
    go_wp2
    go_ret
    refine ⟨_, rfl, ⟨.slice none 0 0, .slice none 0 0, heap_alloc_new w _, ⟨Nat.le_refl _, by simp⟩, Srt.nil, (fun x hx => by cases hx), .inl ⟨rfl, OwF.nil _ _, by decide⟩⟩, below_alloc (Below.refl _ _) _⟩
end Go.Proofs.YtfgonclaiphoeaaGreatDoor.Se
