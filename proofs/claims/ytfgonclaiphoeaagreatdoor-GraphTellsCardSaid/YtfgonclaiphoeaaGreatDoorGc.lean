/- graph.put: of a way that there is. -/
import Derived.Test.YtfgonclaiphoeaaGreatDoorGb
namespace Go.Proofs.YtfgonclaiphoeaaGreatDoor.Gr
set_option linter.unusedVariables false
open Go.RowKit Go.Proofs.YtfgonclaiphoeaaGreatDoorW.PrintWords Go.Proofs.YtfgonclaiphoeaaGreatDoorW.PrintLast Go.Proofs.YtfgonclaiphoeaaGreatDoorW.PrintMore Go.Maps
open Go.Proofs.YtfgonclaiphoeaaGreatDoor.Base Go.Proofs.YtfgonclaiphoeaaGreatDoor.Map Go.Proofs.YtfgonclaiphoeaaGreatDoor.Sl Go.Proofs.YtfgonclaiphoeaaGreatDoor.Ow Go.Proofs.YtfgonclaiphoeaaGreatDoor.Se

theorem zero26 (w : World) : (zeroValue 26).run Tryz.prog w = .ok (.slice none 0 0) w := by kernel_rfl
/-- a graph that a call has turned -/
def PutSaid (w : World) (lab : Nat → Option Tag) (p : Nat) (T : List ByteArray) (K : Int → Int → Prop) (N : Int → Int → List Int) (B : Int → List Int) (M : Nat) (e : Ending) (w' : World) : Prop :=
  e = .returned (.tuple #[]) ∧ ∃ lab', GX w' lab' p T K N B M ∧ (∀ k, lab' k ≠ none → lab k ≠ none ∨ (w.heap.size ≤ k ∧ k < w'.heap.size)) ∧ Chg (fun k => lab k ≠ none) w w'
theorem put_end {w W W2 w2 : World} {lab : Nat → Option Tag} {p : Nat} {T : List ByteArray} {K : Int → Int → Prop} {N : Int → Int → List Int} {B : Int → List Int} {M : Nat} {a f z : Int} {b : Nat} (hal : Below w.heap.size w W) (h : GX W lab p T K N B M) (hb : WayAt W p a f b) (ha : ok64 a) (hf : ok64 f) (hK : K a f)
    (hB2 : Below W.heap.size W W2) (hS : SetF w2 (ext (on lab (.nx a f)) W2 w2) b (addL (N a f) z)) (hC : Chg (on lab (.nx a f)) W2 w2) : PutSaid w lab p T K (updN N a f (addL (N a f) z)) B M (.returned (.tuple #[])) w2 := by
  have h2 := h.below hB2
  have hb2 : WayAt W2 p a f b := by
    obtain ⟨vT, mn, mb, fn, cn, g1, g2, g3⟩ := hb
    exact ⟨vT, mn, mb, fn, cn, Ow.blk_below g1 hB2, g2.below hB2, g3⟩
  have s1 := hal.size
  have s2 := hB2.size
  refine ⟨rfl, _, GX.set h2 hK ha hf hb2 hS hC, fun k hk => (relab_or hk).elim .inl (fun h => .inr ⟨by omega, h.2⟩), ?_⟩
  exact ((Chg.of_below hal _).andBelow hB2).then_ hC (fun k hk => .inl (on_some hk))
set_option maxHeartbeats 4000000 in
set_option maxRecDepth 100000 in
theorem put_old (p : Nat) (lab : Nat → Option Tag) (T : List ByteArray) (K : Int → Int → Prop) (N : Int → Int → List Int) (B : Int → List Int) (M : Nat) (a f z : Int) (w : World) (h : GX w lab p T K N B M) (ha : ok64 a) (hf : ok64 f) (hK : K a f) :
    Calls Tryz.prog 24 #[.pointer (some ⟨p, 0, none⟩), .agg #[.int .i64 a, .int .i64 f], .int .i64 z] w (PutSaid w lab p T K (updN N a f (addL (N a f) z)) B M) := by
  have hal : Below w.heap.size w (w.alloc (.cells #[.int .i64 a, .int .i64 f] 54)) := below_alloc (Below.refl _ _) _
  have H := Aside0.mk (h.below hal)
  have Hal := Aside0.mk hal
  have Ha := Aside0.mk (And.intro ha (And.intro hf hK))
  obtain ⟨vT, mn, mb, fn, fb, cn, cb, h1, h2, h3, h4, h5, h6, h7, h8, h9⟩ := h.below hal
  obtain ⟨b, e1, e2⟩ := (h7 a f ha hf).1 hK
  have hr : (fn (wayL a f)).getD (.pointer none) = .pointer (some ⟨b, 0, none⟩) := by rw [e1]; rfl
  have ho : (fn (wayL a f)).isSome = true := by rw [e1]; rfl
  have hkey := wayL_key ha hf
  have hrun : ∀ n, (Instr.lookup 47 (.map (some mn)) (.agg #[.int .i64 a, .int .i64 f]) true).run Tryz.prog ((w.alloc (.cells #[.int .i64 a, .int .i64 f] 54)).drewN n) = .ok (.tuple #[.pointer (some ⟨b, 0, none⟩), .bool true]) ((w.alloc (.cells #[.int .i64 a, .int .i64 f] 54)).drewN n) := fun n => by
    have := (h3.below (pw_below_drewN (Below.refl _ _) n)).look_ok law54 Tryz.underlying47 (zero55 _) hkey
    rw [hr, ho] at this
    exact this
  have c1 : (w.alloc (.cells #[.int .i64 a, .int .i64 f] 54)).cell? ⟨p, 1, none⟩ = some (.map (some mn)) := blk_cell h1 1
  have HS := Aside0.mk e2
  have Hfn : Aside0 (WayAt (w.alloc (.cells #[.int .i64 a, .int .i64 f] 54)) p a f b) := ⟨vT, mn, mb, fn, cn, h1, h3, e1⟩
  clear h h1 h2 h3 h4 h5 h6 h7 h8 h9 e1 e2 hr ho hkey ha hf hK hal
  go_enter Tryz.func24, Tryz.ntmps24
  go_wp2_with fail
  go_quiet (fail)
  go_wp2_with fail
  refine (add_any b _ (N a f) z _ (HS.out.below (pw_below_drewN (Below.refl _ _) _))).mono ?_
  rintro e w2 ⟨rfl, r1, r2⟩
  have HP := Aside0.mk (put_end Hal.out H.out Hfn.out Ha.out.1 Ha.out.2.1 Ha.out.2.2 (pw_below_drewN (Below.refl (w.alloc (.cells #[.int .i64 a, .int .i64 f] 54)).heap.size _) _) r1 r2)
  clear r1 r2
  go_wp2_with fail
  go_end0
  exact HP.out
end Go.Proofs.YtfgonclaiphoeaaGreatDoor.Gr
