/- ints.Set: mark. -/
import Derived.Test.YtfgonclaiphoeaaGreatDoorSf
import Derived.Deep.LoopGhost
import Derived.Deep.RegionLaw
namespace Go.Proofs.YtfgonclaiphoeaaGreatDoor.Se
set_option linter.unusedVariables false
open Go.RowKit Go.Proofs.YtfgonclaiphoeaaGreatDoorW.PrintWords Go.Proofs.YtfgonclaiphoeaaGreatDoorW.PrintLast Go.Proofs.YtfgonclaiphoeaaGreatDoorW.PrintMore
open Go.Proofs.YtfgonclaiphoeaaGreatDoor.Base Go.Proofs.YtfgonclaiphoeaaGreatDoor.Map Go.Proofs.YtfgonclaiphoeaaGreatDoor.Sl Go.Proofs.YtfgonclaiphoeaaGreatDoor.Ow

/-- A set in block p that stands in rows; cnt: its third cell. -/
structure RowsF (w : World) (F : Nat → Prop) (p : Nat) (cnt : Int) (ws : List Nat) : Prop where
  mk :: (out : ∃ (g : Nat) (cap : Nat), w.heap[p]? = some (.cells #[.slice none 0 0, .slice (some ⟨g, 0, none⟩) ws.length cap, .int .i64 cnt] 83 (0, 0)) ∧ F p ∧ OwU w F (.slice (some ⟨g, 0, none⟩) ws.length cap) ws)
section
variable {w w1 : World} {F F' : Nat → Prop} {v : Value} {ws : List Nat} {p : Nat} {cnt : Int}
theorem RowsF.mono (h : RowsF w F p cnt ws) (hF : ∀ k, F k → F' k) : RowsF w F' p cnt ws := by
  obtain ⟨ad, cap, h1, h2, h3⟩ := h
  exact ⟨ad, cap, h1, hF _ h2, h3.mono hF⟩
theorem RowsF.chg {G : Nat → Prop} (h : RowsF w F p cnt ws) (hC : Chg G w w1) (hd : ∀ k, F k → ¬ G k) : RowsF w1 F p cnt ws := by
  obtain ⟨ad, cap, h1, h2, h3⟩ := h
  exact ⟨ad, cap, hC.blk h1 (hd p h2), h2, h3.chg hC hd⟩
theorem RowsF.below (h : RowsF w F p cnt ws) (hb : Below w.heap.size w w1) : RowsF w1 F p cnt ws := h.chg (Chg.of_below hb (fun _ => False)) (fun _ _ h => h)
theorem RowsF.bound (h : RowsF w F p cnt ws) : RowsF w (fun k => F k ∧ k < w.heap.size) p cnt ws := by
  obtain ⟨ad, cap, h1, h2, h3⟩ := h
  exact ⟨ad, cap, h1, ⟨h2, blk_lt h1⟩, h3.bound⟩
theorem ext_sub {w w1 w2 : World} {F : Nat → Prop} (h2 : Chg F w w1) (hs : w1.heap.size ≤ w2.heap.size) {k : Nat} (h : ext F w w1 k) : ext F w w2 k := h.elim .inl (fun h => .inr ⟨h.1, by omega⟩)
theorem ext_ext {w w1 w2 : World} {F : Nat → Prop} (h1 : w.heap.size ≤ w1.heap.size) (h2 : w1.heap.size ≤ w2.heap.size) {k : Nat} (h : ext (ext F w w1) w1 w2 k) : ext F w w2 k := by
  rcases h with (h | h) | h
  · exact .inl h
  · exact .inr ⟨h.1, by omega⟩
  · exact .inr ⟨by omega, h.2⟩
/-- a store into one of the set's three cells -/
theorem OwU.set (h : OwU w F v ws) {p j : Nat} {cs : Array Value} (hb : w.heap[p]? = some (.cells cs 83 (0, 0))) (u : Value) : OwU (w.setCell ⟨p, j, none⟩ u) F v ws := h.far hb (by decide) j u
/-- the rows have been appended to, and stored -/
theorem rows_grown {g cap : Nat} {v1 : Value} {ws1 : List Nat} (hb : w.heap[p]? = some (.cells #[.slice none 0 0, .slice (some ⟨g, 0, none⟩) ws.length cap, .int .i64 cnt] 83 (0, 0))) (hp : F p) (ho : OwU w F (.slice (some ⟨g, 0, none⟩) ws.length cap) ws)
    (hg : w.grownBy w1 (some g)) (h1 : Kd.R (Kd.int .u64) 84 w1 0 (fun k => F k ∨ w.heap.size ≤ k) v1 (ws1.map fun (n : Nat) => (n : Int))) (hl : 0 < ws1.length) :
    RowsF (w1.setCell ⟨p, 1, none⟩ v1) (ext F w (w1.setCell ⟨p, 1, none⟩ v1)) p cnt ws1 ∧ Chg F w (w1.setCell ⟨p, 1, none⟩ v1) := by
  have hne : some p ≠ (Value.slice (some ⟨g, 0, none⟩) ws.length cap).ownBlock := Kd.R_ne ho.out hb (by decide)
  have hb1 := blk_grown hb hg hne
  have hC : Chg F w w1 := Chg.of_grown hg (fun k hk => ho.out.1 k hk)
  have h2 : OwU w1 (ext F w w1) v1 ws1 := ⟨Kd.R_mono (Kd.R_bound h1) (fun k hk => hk.1.elim .inl (fun h => .inr ⟨h, hk.2.2.1⟩))⟩
  have h3 := h2.set hb1 v1 (j := 1)
  have hsz : (w1.setCell ⟨p, 1, none⟩ v1).heap.size = w1.heap.size := by simp [World.setCell]
  have hC2 : Chg F w (w1.setCell ⟨p, 1, none⟩ v1) := hC.then_ (Chg.setCell w1 (p := ⟨p, 1, none⟩) (F := F) hp v1) (fun k h => .inl h)
  obtain ⟨A, c, hv, _, hr⟩ := Kd.R_reads h1
  have hA : ∃ g1, A = some ⟨g1, 0, none⟩ := by
    obtain ⟨ad1, e, _⟩ := Kd.at_int hr 0 (by omega) (by simpa using hl)
    subst e
    rw [hv] at h1
    obtain ⟨g1, rfl⟩ := Kd.R_head h1
    exact ⟨g1, rfl⟩
  obtain ⟨ad1, rfl⟩ := hA
  have hlen : (ws1.map fun (n : Nat) => (n : Int)).length = ws1.length := by simp
  rw [hlen] at hv
  subst hv
  refine ⟨⟨ad1, c, ?_, .inl hp, h3.mono (fun k hk => ext_sub hC (by rw [hsz]; exact Nat.le_refl _) hk)⟩, hC2⟩
  have := blk_set hb1 1 (.slice (some ⟨ad1, 0, none⟩) ws1.length c)
  simpa using this
end
theorem addr_add (g k : Nat) : (⟨g, 0, none⟩ : Addr).add k = ⟨g, k, none⟩ := by
  unfold Addr.add; split <;> simp_all
theorem OwU.free {w : World} {F : Nat → Prop} {g n cap : Nat} {ws : List Nat} (h : OwU w F (.slice (some ⟨g, 0, none⟩) n cap) ws) (i : Nat) : w.frozen? ⟨g, i, none⟩ = false := by
  obtain ⟨inner, ho⟩ := Kd.R_own h.out
  obtain ⟨cells, hc⟩ := own_typed ho g rfl
  exact blk_frozen hc i
/-- a word is put -/
theorem OwU.put {w : World} {F : Nat → Prop} {g cap : Nat} {ws : List Nat} (h : OwU w F (.slice (some ⟨g, 0, none⟩) ws.length cap) ws) (i x : Nat) : OwU (w.setCell ⟨g, i, none⟩ (.int .u64 (x : Int))) F (.slice (some ⟨g, 0, none⟩) ws.length cap) (ws.set i x) := by
  have hl : ws.length = (ws.map fun (n : Nat) => (n : Int)).length := by simp
  have h1 := h.out
  rw [hl] at h1
  have h2 := (Kd.R_put h1 (i : Int) (x : Int)).1
  rw [Int.toNat_natCast, ← hl] at h2
  refine ⟨?_⟩
  rw [List.map_set]
  exact h2
theorem run_shl1 (P : Program) (t : TypeId) (k : Nat) (hk : k < 64) (w : World) : (binOp .shl t (.int .u64 1) (.int .i64 (k : Int))).run P w = .ok (.int .u64 ((2 ^ k : Nat) : Int)) w := by
  have h0 : ¬ ((k : Int) < 0) := by omega
  have h1 : min ((k : Int).toNat) IntKind.u64.bits = k := by have : IntKind.u64.bits = 64 := rfl; rw [this]; omega
  have hp : 2 ^ k < 2 ^ 64 := Nat.pow_lt_pow_right (by decide) hk
  have h2 : IntKind.u64.wrap (1 * 2 ^ k) = ((2 ^ k : Nat) : Int) := by
    rw [IntKind.wrap_u64, Int.one_mul, show ((2 : Int) ^ k) = ((2 ^ k : Nat) : Int) by simp]
    generalize 2 ^ k = m at hp ⊢
    omega
  simp only [binOp, Op.shift, if_neg h0, h1, h2]
  rfl
theorem run_shr (P : Program) (t : TypeId) (a k : Nat) (hk : k < 64) (w : World) : (binOp .shr t (.int .u64 (a : Int)) (.int .i64 (k : Int))).run P w = .ok (.int .u64 ((a >>> k : Nat) : Int)) w := by
  have h0 : ¬ ((k : Int) < 0) := by omega
  have h1 : min ((k : Int).toNat) IntKind.u64.bits = k := by have : IntKind.u64.bits = 64 := rfl; rw [this]; omega
  have h2 : (a : Int).fdiv (2 ^ k) = ((a >>> k : Nat) : Int) := by
    rw [Nat.shiftRight_eq_div_pow, show ((2 : Int) ^ k) = ((2 ^ k : Nat) : Int) by simp]
    rw [Int.fdiv_eq_ediv_of_nonneg _ (Int.natCast_nonneg _)]
    rfl
  simp only [binOp, Op.shift, if_neg h0, h1, h2]
  rfl
theorem run_and (P : Program) (t : TypeId) (a b : Nat) (ha : a < 2 ^ 64) (hb : b < 2 ^ 64) (w : World) : (binOp .and t (.int .u64 (a : Int)) (.int .u64 (b : Int))).run P w = .ok (.int .u64 ((a &&& b : Nat) : Int)) w := by
  rw [← u64_and_nat a b ha hb]
  rfl
theorem run_or (P : Program) (t : TypeId) (a b : Nat) (ha : a < 2 ^ 64) (hb : b < 2 ^ 64) (w : World) : (binOp .or t (.int .u64 (a : Int)) (.int .u64 (b : Int))).run P w = .ok (.int .u64 ((a ||| b : Nat) : Int)) w := by
  rw [← u64_or_nat a b ha hb]
  rfl
/-- what mark leaves: k noughts behind, and the bit -/
def Marked (w : World) (F : Nat → Prop) (p : Nat) (cnt : Int) (ws : List Nat) (n : Nat) (e : Ending) (w' : World) : Prop :=
  ∃ k, n / 64 < ws.length + k ∧ ws.length + k ≤ 32768 ∧ Chg F w w' ∧
    ((bit ws n = true ∧ e = .returned (.bool false) ∧ RowsF w' (ext F w w') p cnt (ws ++ List.replicate k 0)) ∨
     (bit ws n = false ∧ e = .returned (.bool true) ∧ RowsF w' (ext F w w') p (cnt + 1) ((ws ++ List.replicate k 0).set (n / 64) ((ws ++ List.replicate k 0).getD (n / 64) 0 ||| 2 ^ (n % 64)))))
theorem marked_end {w wr wx : World} {F : Nat → Prop} {p g cap n k wd M O : Nat} {cnt : Int} {ws ws2 : List Nat} (Hin : n / 64 < ws2.length) (hws : ws ++ List.replicate k 0 = ws2) (hk : ws.length + k ≤ 32768) (hC : Chg F w wx) (hsz : wr.heap.size ≤ wx.heap.size) (hp : ext F w wr p)
    (hb : wx.heap[p]? = some (.cells #[.slice none 0 0, .slice (some ⟨g, 0, none⟩) ws2.length cap, .int .i64 cnt] 83 (0, 0))) (hU : OwU wx (ext F w wr) (.slice (some ⟨g, 0, none⟩) ws2.length cap) (ws2.set (n / 64) O)) (hwd : ws2.getD (n / 64) 0 = wd) (hM : 2 ^ (n % 64) = M) (hO : wd ||| M = O) (hbit : bit ws n = false) :
    Marked w F p cnt ws n (.returned (.bool true)) (wx.setCell ⟨p, 2, none⟩ (.int .i64 (cnt + 1))) := by
  have hl : ws2.length = ws.length + k := by rw [← hws]; simp
  have hsub : ∀ k', ext F w wr k' → ext F w (wx.setCell ⟨p, 2, none⟩ (.int .i64 (cnt + 1))) k' := fun k' h => h.elim .inl (fun h => .inr ⟨h.1, by
    have : (wx.setCell ⟨p, 2, none⟩ (.int .i64 (cnt + 1))).heap.size = wx.heap.size := by simp [World.setCell]
    omega⟩)
  refine ⟨k, by omega, hk, hC.then_ (Chg.setCell wx (p := ⟨p, 2, none⟩) (F := ext F w wr) hp (.int .i64 (cnt + 1))) (fun k h => h.elim .inl (fun h => .inr h.1)), .inr ⟨hbit, rfl, ?_⟩⟩
  rw [hws, hwd, hM, hO]
  have hls : (ws2.set (n / 64) O).length = ws2.length := by simp
  refine ⟨g, cap, ?_, hsub p hp, ?_⟩
  · have := blk_set hb 2 (.int .i64 (cnt + 1))
    rw [hls]
    simpa using this
  · rw [hls]
    exact (hU.set hb (j := 2) (.int .i64 (cnt + 1))).mono hsub
theorem grown_end {w wr w1 : World} {F : Nat → Prop} {p g cap n k gk : Nat} {cnt : Int} {ws ws2 : List Nat} {v1 : Value} (hk : ws.length + k ≤ 32768) (hq : gk = 32768 - (ws.length + k)) (hws : ws ++ List.replicate k 0 = ws2) (hl : ws2.length = ws.length + k) (Hin : ¬ n / 64 < ws2.length) (hn : n < 1048576) (hC : Chg F w wr) (hp : ext F w wr p) (h1 : 1 ≤ ws.length)
    (hb : wr.heap[p]? = some (.cells #[.slice none 0 0, .slice (some ⟨g, 0, none⟩) ws2.length cap, .int .i64 cnt] 83 (0, 0))) (hU : OwU wr.drew (ext F w wr) (.slice (some ⟨g, 0, none⟩) ws2.length cap) ws2)
    (hR : Kd.R (Kd.int .u64) 84 w1 0 (fun k => ext F w wr k ∨ wr.heap.size ≤ k) v1 (ws2.map (fun (n : Nat) => (n : Int)) ++ List.replicate ((ws2.length : Int)).toNat (0 : Int))) (hg : wr.drew.grownBy w1 (some g)) :
    32768 - (ws.length + (k + ws2.length)) < gk ∧ ws.length + (k + ws2.length) ≤ 32768 ∧ RowsF (w1.setCell ⟨p, 1, none⟩ v1) (ext F w (w1.setCell ⟨p, 1, none⟩ v1)) p cnt (ws ++ List.replicate (k + ws2.length) 0) ∧ Chg F w (w1.setCell ⟨p, 1, none⟩ v1) := by
  have e1 : ws ++ List.replicate (k + ws2.length) 0 = ws2 ++ List.replicate ws2.length 0 := by
    rw [← List.replicate_append_replicate, ← List.append_assoc, hws]
  have hb' : wr.drew.heap[p]? = some (.cells #[.slice none 0 0, .slice (some ⟨g, 0, none⟩) ws2.length cap, .int .i64 cnt] 83 (0, 0)) := hb
  have hR' : Kd.R (Kd.int .u64) 84 w1 0 (fun k => ext F w wr k ∨ wr.drew.heap.size ≤ k) v1 ((ws2 ++ List.replicate ws2.length 0).map fun (n : Nat) => (n : Int)) := by
    have : (ws2 ++ List.replicate ws2.length 0).map (fun (n : Nat) => (n : Int)) = ws2.map (fun (n : Nat) => (n : Int)) ++ List.replicate ((ws2.length : Int)).toNat (0 : Int) := by simp
    rw [this]; exact hR
  obtain ⟨r1, r2⟩ := rows_grown (F := ext F w wr) hb' hp hU hg hR' (by simp; omega)
  have hC2 : Chg F w (w1.setCell ⟨p, 1, none⟩ v1) := (hC.andBelow (below_drew (Below.refl _ _))).then_ r2 (fun k h => h.elim .inl (fun h => .inr h.1))
  have hs := r2.size
  refine ⟨by omega, by omega, ?_, hC2⟩
  rw [e1]
  exact r1.mono (fun k hk => ext_ext (w1 := wr.drew) hC.size hs hk)
set_option maxHeartbeats 4000000 in
set_option maxRecDepth 100000 in
theorem mark_any (p : Nat) (F : Nat → Prop) (cnt : Int) (ws : List Nat) (n : Nat) (w : World) (h : RowsF w F p cnt ws) (hw : ∀ u ∈ ws, u < 2 ^ 64) (hn : n < 1048576) (h1 : 1 ≤ ws.length) (h2 : ws.length ≤ 32768) (hc0 : 0 ≤ cnt) (hc1 : cnt ≤ 1048576) :
    Calls Tryz.prog 45 #[.pointer (some ⟨p, 0, none⟩), .int .i64 (n : Int)] w (Marked w F p cnt ws n) := by
  have H := Aside0.mk h
  have Hw := Aside0.mk hw
  have Hn := Aside0.mk hn
  have Hl := Aside0.mk (And.intro h1 h2)
  have n0 : 0 ≤ (n : Int) := by omega
  have n1 : (n : Int) < 1048576 := by omega
  clear h hw hn h1 h2
  obtain ⟨M, hM⟩ : ∃ M : Nat, 2 ^ (n % 64) = M := ⟨_, rfl⟩
  have hMlt : M < 18446744073709551616 := by rw [← hM]; exact Nat.pow_lt_pow_right (n := 64) (by decide) (by omega)
  have hMw : IntKind.u64.wrap (2 ^ (n % 64)) = (M : Int) := by
    rw [IntKind.wrap_u64, show ((2 : Int) ^ (n % 64)) = ((2 ^ (n % 64) : Nat) : Int) by simp, hM]
    omega
  have HMw := Aside0.mk hMw
  clear hMw
  have HM := Aside0.mk (And.intro hM hMlt)
  clear hM hMlt
  go_enter Tryz.func45, Tryz.ntmps45
  go_wp2_with fail
  go_loopg [7] (32768 - ws.length) (fun kq _ wr => ∃ k, Aside0 (ws.length + k ≤ 32768) ∧ Aside0 (kq = 32768 - (ws.length + k)) ∧ Aside0 (RowsF wr (ext F w wr) p cnt (ws ++ List.replicate k 0)) ∧ Aside0 (Chg F w wr))
  case atStart => exact ⟨0, ⟨Hl.out.2⟩, ⟨rfl⟩, ⟨by simpa using H.out.mono (fun k hk => .inl hk)⟩, ⟨Chg.refl _ _⟩⟩
  case round =>
    obtain ⟨k, Hk, Hq, HR, HC⟩ := hrel
    obtain ⟨ws2, hws2⟩ : ∃ x, ws ++ List.replicate k 0 = x := ⟨_, rfl⟩
    have hl2 : ws2.length = ws.length + k := by rw [← hws2]; simp
    rw [hws2] at HR
    have Hws2 := Aside0.mk (And.intro hws2 hl2)
    have hRR := HR.out
    obtain ⟨g, cap, hb, hFp, hU⟩ := hRR
    have c1 := blk_cell hb 1
    have c2 := blk_cell hb 2
    have z1 := blk_frozen hb 1
    have z2 := blk_frozen hb 2
    have Hb := Aside0.mk hb
    have HU := Aside0.mk hU
    have Hp := Aside0.mk hFp
    have l1 : 0 ≤ (ws2.length : Int) := by omega
    have l2 : (ws2.length : Int) ≤ 32768 := by have := Hk.out; omega
    by_cases hin : n / 64 < ws2.length
    · have d1 : decide ((n : Int) / 64 ≥ (ws2.length : Int)) = false := decide_eq_false (by omega)
      have d2 : decide ((ws2.length : Int) ≤ (n : Int) / 64) = false := decide_eq_false (by omega)
      have Hin := Aside0.mk hin
      clear hws2 hl2 hb hU hFp hin
      have hwd : ws2.getD (n / 64) 0 < 18446744073709551616 := getD_wide (fun u hu => by
        rw [← Hws2.out.1] at hu
        rcases List.mem_append.1 hu with hu | hu
        · exact Hw.out u hu
        · rw [(List.mem_replicate.1 hu).2]; decide) (n / 64)
      have hcell : wr.cell? ⟨g, n / 64, none⟩ = some (.int .u64 (ws2.getD (n / 64) 0 : Nat)) := by
        have := HU.out.at_ (n / 64) Hin.out
        rwa [addr_add] at this
      have hzg : wr.frozen? ⟨g, n / 64, none⟩ = false := HU.out.free (n / 64)
      obtain ⟨wd, hwd2⟩ : ∃ x, ws2.getD (n / 64) 0 = x := ⟨_, rfl⟩
      rw [hwd2] at hwd hcell
      have Hwd := Aside0.mk (And.intro hwd2 hwd)
      have j0 : 0 ≤ (n : Int) / 64 := by omega
      have j1 : (n : Int) / 64 < (ws2.length : Int) := by have := Hin.out; omega
      have j2 : ((n : Int) / 64).toNat = n / 64 := by omega
      replace j0 := eq_true j0
      replace j1 := eq_true j1
      have hbit : bit ws n = wd.testBit (n % 64) := by
        rw [← bit_more ws k n, Hws2.out.1]; unfold bit; rw [hwd2]
      have hA : bits .and .u64 (wd : Int) (M : Int) = ((wd &&& M : Nat) : Int) := u64_and_nat wd M hwd HM.out.2
      have hAz : (wd &&& M = 0) ↔ wd.testBit (n % 64) = false := by rw [← HM.out.1]; exact and_pow wd (n % 64)
      obtain ⟨A, hA2⟩ : ∃ A, wd &&& M = A := ⟨_, rfl⟩
      rw [hA2] at hA hAz
      go_upto_region 4 with (fail)
      rw [HMw.out]
      by_cases hb0 : wd.testBit (n % 64) = true
      · have hA0 : A ≠ 0 := fun h => by rw [hAz.1 h] at hb0; cases hb0
        have q1 : ((A : Int) == 0) = false := by rw [beq_eq_false_iff_ne]; omega
        have q2 : ((A : Int) != 0) = true := by rw [bne, q1]; rfl
        have Hbit := Aside0.mk (hbit.trans hb0)
        clear hbit hAz hb0 hA0 hA2 hwd2 hwd
        go_wp2_with fail
        go_ret
        exact ⟨k, by have := Hin.out; have := Hws2.out.2; omega, Hk.out, HC.out, .inl ⟨Hbit.out, rfl, by rw [Hws2.out.1]; exact HR.out⟩⟩
      · have hb0 : wd.testBit (n % 64) = false := by simpa using hb0
        obtain rfl : A = 0 := hAz.2 hb0
        have hO : bits .or .u64 (wd : Int) (M : Int) = ((wd ||| M : Nat) : Int) := u64_or_nat wd M hwd HM.out.2
        obtain ⟨O, hO2⟩ : ∃ O, wd ||| M = O := ⟨_, rfl⟩
        rw [hO2] at hO
        have HO := Aside0.mk hO2
        have Hbit := Aside0.mk (hbit.trans hb0)
        have hzc := blk_frozen Hb.out 1
        have hA' : bits .and .u64 (wd : Int) (M : Int) = 0 := hA
        clear hbit hAz hb0 hA2 hwd2 hwd hO2 hA
        go_upto_region 7 with (fail)
        have hgp : g ≠ p := fun e => by
          obtain ⟨inner, ho⟩ := Kd.R_own HU.out.out
          obtain ⟨cells, hc⟩ := own_typed ho g rfl
          rw [e, Hb.out] at hc; cases hc
        have hb2 := blk_far Hb.out (p := ⟨g, n / 64, none⟩) (fun e => hgp e.symm) (.int .u64 (O : Int))
        have hU2 := HU.out.put (n / 64) O
        have HB2 := Aside0.mk (And.intro hb2 hU2)
        have HC2 := Aside0.mk (HC.out.then_ (Chg.setCell wr (p := ⟨g, n / 64, none⟩) (F := ext F w wr) (HU.out.out.1 g rfl) (.int .u64 (O : Int))) (fun k h => h.elim .inl (fun h => .inr h.1)))
        have y2 := blk_cell hb2 2
        have y3 := blk_frozen hb2 2
        generalize hwx : wr.setCell ⟨g, n / 64, none⟩ (.int .u64 (O : Int)) = wx at hb2 hU2 HB2 HC2 y2 y3 ⊢
        have Hsz := Aside0.mk (show wr.heap.size ≤ wx.heap.size by rw [← hwx]; simp [World.setCell])
        clear hwx hb2 hU2 hgp
        go_wp2_with fail
        go_ret
        exact marked_end Hin.out Hws2.out.1 Hk.out HC2.out Hsz.out Hp.out HB2.out.1 HB2.out.2 Hwd.out.1 HM.out.1 HO.out Hbit.out
    · have d1 : decide ((n : Int) / 64 ≥ (ws2.length : Int)) = true := decide_eq_true (by omega)
      have d2 : decide ((ws2.length : Int) ≤ (n : Int) / 64) = true := decide_eq_true (by omega)
      have Hin := Aside0.mk hin
      clear hws2 hl2 hb hU hFp hin
      go_wp2_with fail
      have HUd := Aside0.mk (HU.out.below (below_drew (Below.refl wr.heap.size wr)))
      have Hbd : Aside0 (wr.drew.heap[p]? = some (.cells #[.slice none 0 0, .slice (some ⟨g, 0, none⟩) ws2.length cap, .int .i64 cnt] 83 (0, 0))) := ⟨Hb.out⟩
      have Hlen : Aside0 ((ws2.length + ws2.length) * 8 ≤ 140737488355328) := ⟨by omega⟩
      go_region_law (refine Kd.R_append_zeros_step (Kd.int .u64) (w0 := wr) 0 (by rfl) (.tmp 18) (.tmp 23) 81 3 84 (.int .u64 0) 8 (by rfl) Tryz.underlying81 Tryz.underlying3 info84 rfl (by decide) (by decide) (.slice (some ⟨g, 0, none⟩) ws2.length cap) (ws2.map fun (n : Nat) => (n : Int)) (0 : Int) (ws2.length : Int) (fun k => ext F w wr k ∨ wr.heap.size ≤ k) (by rfl) (by rfl) (by rfl) (fun k hk => .inr hk) (Kd.R_mono HUd.out.out (fun k hk => .inl hk)) l1 (below_drew (Below.refl 0 wr)) (Nat.zero_le _) (by rw [List.length_map, Int.toNat_natCast]; exact Hlen.out) ?_; intro v1 w1 hR1 hB1 hg1 _; obtain ⟨A1, c1', hv1, _, _⟩ := Kd.R_reads hR1; obtain ⟨m1, hm1⟩ : ∃ m, (List.map (fun (n : Nat) => (n : Int)) ws2 ++ List.replicate ((ws2.length : Int)).toNat (0 : Int)).length = m := ⟨_, rfl⟩; rw [hm1] at hv1; subst hv1; have hne := Kd.R_ne (g := p) HUd.out.out Hbd.out (by decide); have hb3 := Aside0.mk (blk_grown Hbd.out hg1 hne); have z3' : w1.frozen? ⟨p, 1, none⟩ = false := blk_frozen hb3.out 1; have e3 : w1.cell? ⟨p, 1, none⟩ = some (.slice (some ⟨g, 0, none⟩) ws2.length cap) := blk_cell hb3.out 1; have HR3 := Aside0.mk hR1; have Hg3 := Aside0.mk hg1; clear hR1 hB1 hg1 hne hm1)
      all_goals
        go_wp2
        have hE := grown_end Hk.out Hq.out Hws2.out.1 Hws2.out.2 Hin.out Hn.out HC.out Hp.out Hl.out.1 Hb.out HUd.out HR3.out Hg3.out
        have HE := Aside0.mk hE
        clear hE
        go_roundg (32768 - (ws.length + (k + ws2.length)))
        case measure => exact HE.out.1
        case rel => exact ⟨k + ws2.length, ⟨HE.out.2.1⟩, ⟨rfl⟩, ⟨HE.out.2.2.1⟩, ⟨HE.out.2.2.2⟩⟩
end Go.Proofs.YtfgonclaiphoeaaGreatDoor.Se
