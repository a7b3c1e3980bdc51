/- graph.put: of a way that is new. -/
import Derived.Test.YtfgonclaiphoeaaGreatDoorGc
import Derived.Deep.RegionHeld3
namespace Go.Proofs.YtfgonclaiphoeaaGreatDoor.Gr
set_option linter.unusedVariables false
open Go.RowKit Go.Proofs.YtfgonclaiphoeaaGreatDoorW.PrintWords Go.Proofs.YtfgonclaiphoeaaGreatDoorW.PrintLast Go.Proofs.YtfgonclaiphoeaaGreatDoorW.PrintMore Go.Maps
open Go.Proofs.YtfgonclaiphoeaaGreatDoor.Base Go.Proofs.YtfgonclaiphoeaaGreatDoor.Map Go.Proofs.YtfgonclaiphoeaaGreatDoor.Sl Go.Proofs.YtfgonclaiphoeaaGreatDoor.Ow Go.Proofs.YtfgonclaiphoeaaGreatDoor.Se

theorem chg_cell {F : Nat → Prop} {w w1 : World} {b o : Nat} {v : Value} (h : Chg F w w1) (hn : ¬ F b) (hc : w.cell? ⟨b, o, none⟩ = some v) : w1.cell? ⟨b, o, none⟩ = some v := by
  have hl := World.block_lt_of_cell? w _ hc
  have e := h.block b hl hn
  unfold World.cell? at hc ⊢
  rw [e]; exact hc
@[simp] theorem chg_drew {F : Nat → Prop} {w w1 : World} (h : Chg F w w1) : Chg F w w1.drew := h.andBelow (below_drew (Below.refl _ _))
@[simp] theorem chg_drewN {F : Nat → Prop} {w w1 : World} (h : Chg F w w1) (n : Nat) : Chg F w (w1.drewN n) := h.andBelow (pw_below_drewN (Below.refl _ _) n)
@[simp] theorem chg_alloc {F : Nat → Prop} {w w1 : World} (h : Chg F w w1) (o : Obj) : Chg F w (w1.alloc o) := h.andBelow (below_alloc (Below.refl _ _) o)
/-- BinarySearch: only draws -/
theorem bs_q (v : Value) (l : List Int) (x : Int) (w : World) (h : RdV w v l) (hs : Srt l) (hl : l.length ≤ 1000000000) :
    Calls Tryz.prog 41 #[v, .int .i64 x] w fun e w' => e = .returned (.tuple #[.int .i64 (below l x : Nat), .bool (decide (x ∈ l))]) ∧ ∃ q, w' = w.drewN q := by
  rcases Nat.eq_zero_or_pos l.length with h0 | h0
  · obtain rfl := List.eq_nil_of_length_eq_zero h0
    obtain ⟨A, c, rfl, hc, hr⟩ := h
    refine (Tryz.slices_BinarySearch_int_empty A c x w).mono ?_
    rintro e w' ⟨rfl, rfl⟩
    exact ⟨by simp [below], 0, rfl⟩
  · obtain ⟨b, off, c, rfl, hc, hcell⟩ := RdV.cells h h0
    refine (Tryz.slices_BinarySearch_int b off l.length c l x w (Nat.le_refl _) (by omega) hcell (by rw [List.take_of_length_le (Nat.le_refl _)]; exact srt_le hs)).mono ?_
    rintro e w' ⟨rfl, q, rfl⟩
    rw [List.take_of_length_le (Nat.le_refl _)]
    have : l.contains x = decide (x ∈ l) := by rw [Bool.eq_iff_iff]; simp
    rw [this]
    exact ⟨rfl, q, rfl⟩
/-- put, of a way that is new: what its calls leave -/
theorem put_new_end {w W w2 w3 w4 wa w5 w6 w7 : World} {lab : Nat → Option Tag} {p : Nat} {T : List ByteArray} {K : Int → Int → Prop} {N : Int → Int → List Int} {B : Int → List Int} {M : Nat} {vT : Value} {mn mb : Nat} {fn fb : Lit → Option Value} {cn cb cn' cb' : Nat} {a f z : Int} {b : Nat} {v' : Value}
    (hW : Below w.heap.size w W) (hG : GXc W lab p T K N B M vT mn mb fn fb cn cb) (ha : ok64 a) (hf : ok64 f) (hK : ¬ K a f)
    (h2 : Below W.heap.size W w2) (hS2 : SetF w2 (new W w2) b []) (h3 : Chg (fun k => k = mn) w2 w3) (hM3 : MapP Tryz.prog 54 w3 mn (upd fn (wayL a f) (some (.pointer (some ⟨b, 0, none⟩)))) cn') (hcn : cn' ≤ cn + 1)
    (h4 : Below w3.heap.size w3 w4) (ha4 : Below w4.heap.size w4 wa) (hO5 : OwF w5 (ext (on lab (.by_ a)) wa w5) v' (ins (B a) f)) (h5 : Chg (on lab (.by_ a)) wa w5)
    (hM6 : MapP Tryz.prog 3 w6 mb (upd fb (.int .i64 a) (some v')) cb') (hcb : cb' ≤ cb + 1) (h6 : w5.grownBy w6 (some mb))
    (hS7 : SetF w7 (ext (new W w2) w6 w7) b (addL [] z)) (h7 : Chg (new W w2) w6 w7) :
    PutSaid w lab p T (fun a' f' => K a' f' ∨ (a' = a ∧ f' = f)) (updN N a f (addL [] z)) (updB B a (ins (B a) f)) (M + 1) (.returned (.tuple #[])) w7 := by
  have h6' : Chg (fun k => k = mb) w5 w6 := Chg.of_grown h6 (fun k hk => by cases hk; rfl)
  have s2 := h2.size; have s3 := h3.size; have s4 := h4.size; have s5 := ha4.size; have s6 := h5.size; have s7 := h6'.size; have s8 := h7.size; have sW := hW.size
  have hL := hG.lt
  have hbase := hG.base
  -- the labels at the end
  let lab7 : Nat → Option Tag := fun k => if W.heap.size ≤ k ∧ k < w2.heap.size then some (.nx a f) else if wa.heap.size ≤ k ∧ k < w5.heap.size then some (.by_ a) else if w6.heap.size ≤ k ∧ k < w7.heap.size then some (.nx a f) else lab k
  have l1 : ∀ k, k < W.heap.size → lab7 k = lab k := fun k hk => by
    show (if _ then _ else _) = _
    rw [if_neg (by omega), if_neg (by omega), if_neg (by omega)]
  have l2 : ∀ t k, on lab t k → on lab7 t k := fun t k hk => by
    have h := hL k (on_some hk)
    unfold on at hk ⊢
    rw [l1 k h]; exact hk
  have l3 : ∀ k, W.heap.size ≤ k ∧ k < w2.heap.size → on lab7 (.nx a f) k := fun k hk => if_pos hk
  have l4 : ∀ k, wa.heap.size ≤ k ∧ k < w5.heap.size → on lab7 (.by_ a) k := fun k hk => by
    show (if _ then _ else _) = _
    rw [if_neg (by omega), if_pos hk]
  have l5 : ∀ k, w6.heap.size ≤ k ∧ k < w7.heap.size → on lab7 (.nx a f) k := fun k hk => by
    show (if _ then _ else _) = _
    rw [if_neg (by omega), if_neg (by omega), if_pos hk]
  have l6 : ∀ k, lab7 k ≠ none → lab k ≠ none ∨ (W.heap.size ≤ k ∧ k < w7.heap.size) := fun k hk => by
    rcases Nat.lt_or_ge k W.heap.size with h | h
    · rw [l1 k h] at hk; exact .inl hk
    · by_cases e : lab7 k = lab k
      · rw [e] at hk; exact .inl hk
      · refine .inr ⟨h, Nat.lt_of_not_ge fun hge => e ?_⟩
        show (if _ then _ else _) = _
        rw [if_neg (by omega), if_neg (by omega), if_neg (by omega)]
  -- all that has changed of what is old: the two maps, the object's row
  have hC6 : Chg (fun k => k = mn ∨ on lab (.by_ a) k ∨ k = mb) W w6 :=
    (((((Chg.of_below h2 _).then_ h3 (fun k hk => .inl (.inl hk))).andBelow h4).andBelow ha4).then_ h5 (fun k hk => .inl (.inr (.inl hk)))).then_ h6' (fun k hk => .inl (.inr (.inr hk)))
  have hC7 : Chg (fun k => k = mn ∨ on lab (.by_ a) k ∨ k = mb) W w7 := hC6.then_ h7 (fun k hk => .inr hk.1)
  have kept : ∀ t, t ≠ .base → t ≠ .by_ a → ∀ k, on lab t k → ¬ (k = mn ∨ on lab (.by_ a) k ∨ k = mb) := fun t t1 t2 k hk h => by
    rcases h with rfl | h | rfl
    · exact on_ne t1 hk hbase.2.1
    · exact on_ne t2 hk h
    · exact on_ne t1 hk hbase.2.2.1
  obtain ⟨es1, ck1, hmn⟩ := hG.next.at_block
  obtain ⟨es2, ck2, hmb⟩ := hG.by_.at_block
  have pmn : p ≠ mn := fun e => by have := hG.blk; rw [e, hmn] at this; cases this
  have pmb : p ≠ mb := fun e => by have := hG.blk; rw [e, hmb] at this; cases this
  have nbb : ∀ k, on lab .base k → ¬ on lab (.by_ a) k := fun k hk => on_ne (fun h => by cases h) hk
  have hp7 : ¬ (p = mn ∨ on lab (.by_ a) p ∨ p = mb) := fun h => h.elim pmn (fun h => h.elim (nbb p hbase.1) pmb)
  have newlt : ∀ k, new W w2 k → ¬ k < W.heap.size := fun k hk h => by have := hk.1; omega
  have hM37 : MapP Tryz.prog 54 w7 mn (upd fn (wayL a f) (some (.pointer (some ⟨b, 0, none⟩)))) cn' := by
    have hmlt : mn < W.heap.size := hG.next.lt
    exact ((((hM3.below h4).below ha4).chg h5 (nbb mn hbase.2.1)).chg h6' hbase.2.2.2).chg h7 (fun h => newlt mn h hmlt)
  have hM67 : MapP Tryz.prog 3 w7 mb (upd fb (.int .i64 a) (some v')) cb' := hM6.chg h7 (fun h => newlt mb h hG.by_.lt)
  have hO7 : OwF w7 (on lab7 (.by_ a)) v' (ins (B a) f) := by
    have hO6 : OwF w6 (fun k => ext (on lab (.by_ a)) wa w5 k ∧ k < w5.heap.size) v' (ins (B a) f) := hO5.bound.chg h6' (fun k hk e => by
      subst e
      rcases hk.1 with h | h
      · exact nbb _ hbase.2.2.1 h
      · have := hG.by_.lt; omega)
    refine (hO6.chg h7 (fun k hk hn => ?_)).mono (fun k hk => ?_)
    · rcases hk.1 with h | h
      · exact newlt k hn (hL k (on_some h))
      · have := hn.2; omega
    · rcases hk.1 with h | h
      · exact l2 _ k h
      · exact l4 k h
  refine ⟨rfl, lab7, ⟨vT, mn, mb, _, _, cn', cb', hC7.blk hG.blk hp7, ?_, hM37, hM67, ⟨l2 _ _ hbase.1, l2 _ _ hbase.2.1, l2 _ _ hbase.2.2.1, hbase.2.2.2⟩, fun k hk => (l6 k hk).elim (fun h => by have := hL k h; omega) (fun h => h.2), fun a' f' ha' hf' => ⟨fun hK' => ?_, fun hK' => ?_⟩, fun a' ha' => ?_, fun kl hkl => ?_, by have := hG.tail.2.1; omega, by have := hG.tail.2.2; omega⟩, fun k hk => (l6 k hk).elim .inl (fun h => .inr ⟨by omega, h.2⟩), ?_⟩
  · refine Kd.R_mono (Kd.R_step (Kd.R_bound hG.types) (fun k hk hlt => hC7.block k hlt (fun h => ?_))) (fun k hk => l2 _ k hk.1)
    rcases h with rfl | h | rfl
    · obtain ⟨_, _, _, q, _, cells, hc⟩ := hk; rw [hmn] at hc; cases hc
    · exact nbb k hk.1 h
    · obtain ⟨_, _, _, q, _, cells, hc⟩ := hk; rw [hmb] at hc; cases hc
  · by_cases e : a' = a ∧ f' = f
    · obtain ⟨rfl, rfl⟩ := e
      refine ⟨b, by rw [upd_same], ?_⟩
      unfold updN; rw [if_pos ⟨rfl, rfl⟩]
      exact hS7.mono (fun k hk => hk.elim (l3 k) (l5 k))
    · have hK0 : K a' f' := hK'.resolve_right e
      obtain ⟨b', e1, e2⟩ := (hG.ways a' f' ha' hf').1 hK0
      have hw : wayL a' f' ≠ wayL a f := fun h => e (wayL_inj ha' hf' ha hf h)
      unfold updN; rw [if_neg e]
      refine ⟨b', by rw [upd_other _ hw]; exact e1, ?_⟩
      exact (e2.chg hC7 (kept _ (fun h => by cases h) (fun h => by cases h))).mono (fun k hk => l2 _ k hk)
  · have e : ¬ (a' = a ∧ f' = f) := fun h => hK' (.inr h)
    have hw : wayL a' f' ≠ wayL a f := fun h => e (wayL_inj ha' hf' ha hf h)
    rw [upd_other _ hw]
    exact (hG.ways a' f' ha' hf').2 (fun h => hK' (.inl h))
  · by_cases e : a' = a
    · subst e
      unfold updB; rw [if_pos rfl]
      refine ⟨srt_ins (hG.fields a' ha').1 f, fun _ => ⟨v', by rw [upd_same], hO7⟩, fun h => ?_⟩
      have : f ∈ ins (B a') f := mem_ins.2 (.inl rfl)
      rw [h] at this; cases this
    · have hne : (Lit.int .i64 a') ≠ .int .i64 a := fun h => e (by cases h; rfl)
      unfold updB; rw [if_neg e, upd_other _ hne]
      obtain ⟨r1, r2, r3⟩ := hG.fields a' ha'
      refine ⟨r1, fun hB => ?_, r3⟩
      obtain ⟨v, e1, e2⟩ := r2 hB
      exact ⟨v, e1, (e2.chg hC7 (kept _ (fun h => by cases h) (fun h => e (by cases h; rfl)))).mono (fun k hk => l2 _ k hk)⟩
  · by_cases e : kl = .int .i64 a
    · exact ⟨a, ha, e⟩
    · rw [upd_other _ e] at hkl
      exact hG.tail.1 kl hkl
  · exact (Chg.of_below hW _).then_ hC7 (fun k hk => .inl (hk.elim (fun h => h ▸ on_some hbase.2.1) (fun h => h.elim on_some (fun h => h ▸ on_some hbase.2.2.1))))
theorem set_kept {W w2 w3 w4 wa w5 w6 : World} {lab : Nat → Option Tag} {p : Nat} {T : List ByteArray} {K : Int → Int → Prop} {N : Int → Int → List Int} {B : Int → List Int} {M : Nat} {vT : Value} {mn mb : Nat} {fn fb : Lit → Option Value} {cn cb : Nat} {a : Int} {b : Nat}
    (hG : GXc W lab p T K N B M vT mn mb fn fb cn cb) (h2 : Below W.heap.size W w2) (hS2 : SetF w2 (new W w2) b []) (h3 : Chg (fun k => k = mn) w2 w3) (h4 : Below w3.heap.size w3 w4) (ha4 : Below w4.heap.size w4 wa) (h5 : Chg (on lab (.by_ a)) wa w5) (h6 : w5.grownBy w6 (some mb)) : SetF w6 (new W w2) b [] := by
  have h6' : Chg (fun k => k = mb) w5 w6 := Chg.of_grown h6 (fun k hk => by cases hk; rfl)
  have m1 := hG.next.lt
  have m2 := hG.by_.lt
  exact ((((hS2.chg h3 (fun k hk e => by have := hk.1; omega)).below h4).below ha4).chg h5 (fun k hk e => by have := hk.1; have := hG.lt k (on_some e); omega)).chg h6' (fun k hk e => by have := hk.1; omega)
set_option maxHeartbeats 4000000 in
set_option maxRecDepth 100000 in
theorem put_new (p : Nat) (lab : Nat → Option Tag) (T : List ByteArray) (K : Int → Int → Prop) (N : Int → Int → List Int) (B : Int → List Int) (M : Nat) (a f z : Int) (w : World) (h : GX w lab p T K N B M) (ha : ok64 a) (hf : ok64 f) (hK : ¬ K a f) (hfB : f ∉ B a) (hM : M ≤ 1000000) (hBl : (B a).length ≤ 1000000) :
    Calls Tryz.prog 24 #[.pointer (some ⟨p, 0, none⟩), .agg #[.int .i64 a, .int .i64 f], .int .i64 z] w (PutSaid w lab p T (fun a' f' => K a' f' ∨ (a' = a ∧ f' = f)) (updN N a f (addL [] z)) (updB B a (ins (B a) f)) (M + 1)) := by
  have hal : Below w.heap.size w (w.alloc (.cells #[.int .i64 a, .int .i64 f] 54)) := below_alloc (Below.refl _ _) _
  have H := Aside0.mk (h.below hal)
  have Hal := Aside0.mk hal
  have Ha := Aside0.mk (And.intro ha (And.intro hf (And.intro hK (And.intro hfB (And.intro hM hBl)))))
  have k0 : (w.alloc (.cells #[.int .i64 a, .int .i64 f] 54)).cell? ⟨w.heap.size, 0, none⟩ = some (.int .i64 a) := blk_cell (heap_alloc_new _ _) 0
  have k1 : (w.alloc (.cells #[.int .i64 a, .int .i64 f] 54)).cell? ⟨w.heap.size, 1, none⟩ = some (.int .i64 f) := blk_cell (heap_alloc_new _ _) 1
  have hgl : ∀ k, lab k ≠ none → k ≠ w.heap.size := fun k hk e => by have := h.lt k hk; omega
  have Hgl := Aside0.mk hgl
  have hkey := wayL_key ha hf
  obtain ⟨vT0, mn0, mb0, fn0, fb0, cn0, cb0, g0⟩ := h.below hal
  have hr : (fn0 (wayL a f)).getD (.pointer none) = .pointer none := by rw [(g0.ways a f ha hf).2 hK]; rfl
  have ho : (fn0 (wayL a f)).isSome = false := by rw [(g0.ways a f ha hf).2 hK]; rfl
  have hrun : ∀ n, (Instr.lookup 47 (.map (some mn0)) (.agg #[.int .i64 a, .int .i64 f]) true).run Tryz.prog ((w.alloc (.cells #[.int .i64 a, .int .i64 f] 54)).drewN n) = .ok (.tuple #[.pointer none, .bool false]) ((w.alloc (.cells #[.int .i64 a, .int .i64 f] 54)).drewN n) := fun n => by
    have := (g0.next.below (pw_below_drewN (Below.refl _ _) n)).look_ok law54 Tryz.underlying47 (zero55 _) hkey
    rw [hr, ho] at this
    exact this
  have c1 : (w.alloc (.cells #[.int .i64 a, .int .i64 f] 54)).cell? ⟨p, 1, none⟩ = some (.map (some mn0)) := blk_cell g0.blk 1
  have Hkey := Aside0.mk hkey
  clear h ha hf hK hfB hM hBl hal hgl hkey hr ho g0
  go_enter Tryz.func24, Tryz.ntmps24
  go_wp2_with fail
  go_quiet (fail)
  have hbw : Below (w.alloc (.cells #[.int .i64 a, .int .i64 f] 54)).heap.size (w.alloc (.cells #[.int .i64 a, .int .i64 f] 54)) ((w.alloc (.cells #[.int .i64 a, .int .i64 f] 54)).drewN nq) := pw_below_drewN (Below.refl _ _) _
  have HX := Aside0.mk (H.out.below hbw)
  have HW := Aside0.mk (below_then Hal.out Hal.out.size hbw)
  have k0 := cell_bel hbw k0
  have k1 := cell_bel hbw k1
  have Hgw : Aside0 (w.heap.size < ((w.alloc (.cells #[.int .i64 a, .int .i64 f] 54)).drewN nq).heap.size) := ⟨by simp⟩
  clear hrun c1 H Hal hbw
  generalize (w.alloc (.cells #[.int .i64 a, .int .i64 f] 54)).drewN nq = W at *
  obtain ⟨vT, mn, mb, fn, fb, cn, cb, hG⟩ := HX.out
  have ho : (fn (wayL a f)).isSome = false := by rw [(hG.ways a f Ha.out.1 Ha.out.2.1).2 Ha.out.2.2.1]; rfl
  obtain ⟨hs8, h8a, h8b⟩ := hG.fields a Ha.out.1
  have hv : ∃ v, (fb (.int .i64 a)).getD (.slice none 0 0) = v ∧ OwF W (on lab (.by_ a)) v (B a) := by
    by_cases hB : B a = []
    · rw [h8b hB, hB]; exact ⟨_, rfl, OwF.nil _ _⟩
    · obtain ⟨v, e2, e3⟩ := h8a hB
      exact ⟨v, by rw [e2]; rfl, e3⟩
  obtain ⟨v, hv1, hv2⟩ := hv
  have HV := Aside0.mk (And.intro hv1 (And.intro hv2 hs8))
  have HG := Aside0.mk hG
  have H1 := Aside0.mk hG.blk
  have H3 := Aside0.mk hG.next
  have H4 := Aside0.mk hG.by_
  have H5 := Aside0.mk hG.base
  have Hcn := Aside0.mk hG.tail.2
  have Ho := Aside0.mk ho
  clear hG ho hs8 h8a h8b hv1 hv2
  go_wp2_with fail
  refine (of_any W).mono ?_
  rintro e w2 ⟨b, rfl, r1, r2⟩
  have HS2 := Aside0.mk r1
  have HB2 := Aside0.mk r2
  have k0 := cell_bel r2 k0
  have k1 := cell_bel r2 k1
  have hb2 := Ow.blk_below H1.out r2
  have c1 : w2.cell? ⟨p, 1, none⟩ = some (.map (some mn)) := blk_cell hb2 1
  have hM3 := H3.out.below r2
  obtain ⟨es, ck, hmn⟩ := hM3.at_block
  have np : ¬ p = mn := fun e => by rw [e, hmn] at hb2; cases hb2
  have ng : ¬ w.heap.size = mn := fun e => Hgl.out mn (on_some H5.out.2.1) e.symm
  obtain ⟨w3, hst, hM3', hg3⟩ := (hM3.below (below_drew (Below.refl w2.heap.size w2))).store (val := .pointer (some ⟨b, 0, none⟩)) law54 Tryz.underlying47 (by have := Hcn.out; have := Ha.out.2.2.2.2.1; unfold maxLen; omega) Hkey.out
  rw [Ho.out] at hM3'
  have HM3 := Aside0.mk hM3'
  have hC3 : Chg (fun k => k = mn) w2 w3 := (chg_drew (Chg.refl _ w2)).then_ (Chg.of_grown hg3 (fun k hk => by cases hk; rfl)) (fun k hk => .inl hk)
  have hCW := Chg.refl (fun k => k = mn) w2
  clear hM3 hM3' hg3 r1 r2 hmn hb2
  unfold wayV at hst
  go_wp2_with fail
  go_region_held3 (fun W' => W'.cell? ⟨p, 1, none⟩ = some (.map (some mn)) ∧ W'.cell? ⟨w.heap.size, 0, none⟩ = some (.int .i64 a) ∧ W'.cell? ⟨w.heap.size, 1, none⟩ = some (.int .i64 f) ∧ Chg (fun k => k = mn) w2 W')
   (refine ⟨chg_cell (F := fun k => k = mn) (w := w2) ?_ np c1, chg_cell (F := fun k => k = mn) (w := w2) ?_ ng k0, chg_cell (F := fun k => k = mn) (w := w2) ?_ ng k1, ?_⟩ <;> simp [*])
   (first | (fail))
  rename_i hheld
  obtain ⟨-, k0, k1, -⟩ := hheld
  have hb3 := hC3.blk (Ow.blk_below H1.out HB2.out) np
  have c2 : w3.cell? ⟨p, 2, none⟩ = some (.map (some mb)) := blk_cell hb3 2
  have hM4 := (H4.out.below HB2.out).chg hC3 (fun e => H5.out.2.2.2 e.symm)
  have HM4 := Aside0.mk hM4
  have nby : ∀ k, on lab (.by_ a) k → ¬ k = mn := fun k hk e => on_ne (by intro h; cases h) hk (e ▸ H5.out.2.1)
  have Hv3 := Aside0.mk ((HV.out.2.1.below HB2.out).chg hC3 nby)
  have HC3 := Aside0.mk hC3
  have Hb3 := Aside0.mk hb3
  have hkeyi := intKey Ha.out.1
  have Hkeyi := Aside0.mk hkeyi
  obtain ⟨i, hi⟩ : ∃ i, below (B a) f = i := ⟨_, rfl⟩
  have Hi := Aside0.mk hi
  have hrun : ∀ n, (Instr.lookup 48 (.map (some mb)) (.int .i64 a) false).run Tryz.prog (w3.drewN n) = .ok v (w3.drewN n) := fun n => by
    have := (hM4.below (pw_below_drewN (Below.refl _ _) n)).look law3 Tryz.underlying48 (zero26 _) hkeyi
    rw [HV.out.1] at this
    exact this
  have Hbs := Aside0.mk (show ∀ n, Calls Tryz.prog 41 #[v, .int .i64 f] (w3.drewN n) fun e w' => e = .returned (.tuple #[.int .i64 (i : Int), .bool false]) ∧ ∃ q, w' = (w3.drewN n).drewN q from fun n => by
    have := bs_q v (B a) f (w3.drewN n) (Hv3.out.below (pw_below_drewN (Below.refl _ _) n)).toV HV.out.2.2 (by have := Ha.out.2.2.2.2.2; omega)
    rw [hi, decide_eq_false Ha.out.2.2.2.1] at this
    exact this)
  clear hst c1 hCW np ng hC3 hM4 hkeyi hi hb3 nby
  go_wp2_with fail
  go_quiet ((go_at_call 41; exact Calls.quiet_of (Hbs.out _)))
  have hbw : Below w3.heap.size w3 (w3.drewN nq) := pw_below_drewN (Below.refl _ _) _
  have k0 := cell_bel hbw k0
  have k1 := cell_bel hbw k1
  have c2 := cell_bel hbw c2
  have HM4 := Aside0.mk (HM4.out.below hbw)
  have Hv4 := Aside0.mk (Hv3.out.below hbw)
  have Hb4 := Aside0.mk (Ow.blk_below Hb3.out hbw)
  have HBW := Aside0.mk hbw
  clear hrun hbw Hbs Hv3 Hb3
  generalize w3.drewN nq = w4 at *
  obtain ⟨es, ck, hmb⟩ := HM4.out.at_block
  have np : ¬ (on lab (.by_ a) p ∨ p = mb) := fun e => e.elim (fun h => on_ne (by intro h; cases h) h H5.out.1) (fun h => by have := Hb4.out; rw [h, hmb] at this; cases this)
  have ng : ¬ (on lab (.by_ a) w.heap.size ∨ w.heap.size = mb) := fun e => e.elim (fun h => Hgl.out _ (on_some h) rfl) (fun h => Hgl.out mb (on_some H5.out.2.2.1) h.symm)
  have nmb : ¬ on lab (.by_ a) mb := fun h => on_ne (by intro h; cases h) h H5.out.2.2.1
  clear hmb
  have hlk1 : (Instr.lookup 48 (.map (some mb)) (.int .i64 a) false).run Tryz.prog w4.drew = .ok v w4.drew := by
    have := (HM4.out.below (below_drew (Below.refl _ _))).look law3 Tryz.underlying48 (zero26 _) Hkeyi.out
    rw [HV.out.1] at this
    exact this
  have hlk2 : (Instr.lookup 48 (.map (some mb)) (.int .i64 a) false).run Tryz.prog ((w4.alloc (.cells #[.int .i64 f] 3)).drew) = .ok v ((w4.alloc (.cells #[.int .i64 f] 3)).drew) := by
    have := ((HM4.out.below (below_alloc (Below.refl _ _) (.cells #[.int .i64 f] 3))).below (below_drew (Below.refl _ _))).look law3 Tryz.underlying48 (zero26 _) Hkeyi.out
    rw [HV.out.1] at this
    exact this
  have hI := insert_own v (B a) f w4.heap.size (on lab (.by_ a)) ((w4.alloc (.cells #[.int .i64 f] 3)).drew) ((Hv4.out.below (below_alloc (Below.refl _ _) (.cells #[.int .i64 f] 3))).below (below_drew (Below.refl _ _))) Ha.out.2.2.2.1 (heap_alloc_new w4 _) (fun h => by
    have h1 := Hgl.out _ (on_some h)
    have h2 := HX.out.lt _ (on_some h)
    have h3 := HB2.out.size
    have h4 := HC3.out.size
    have h5 := HBW.out.size
    omega) (by have := Ha.out.2.2.2.2.2; omega)
  rw [Hi.out] at hI
  have HI := Aside0.mk hI
  have hCW : Chg (fun k => on lab (.by_ a) k ∨ k = mb) w4 w4 := Chg.refl _ _
  clear hI
  go_wp2_with fail
  refine wp_region_held_drew (S := (fun W' => W'.cell? ⟨p, 2, none⟩ = some (.map (some mb)) ∧ W'.cell? ⟨w.heap.size, 0, none⟩ = some (.int .i64 a) ∧ W'.cell? ⟨w.heap.size, 1, none⟩ = some (.int .i64 f) ∧ Chg (fun k => on lab (.by_ a) k ∨ k = mb) w4 W')) (by kernel_rfl) ?_ (fun hHeld => ?_)
  · (refine ⟨chg_cell (F := fun k => on lab (.by_ a) k ∨ k = mb) (w := w4) ?_ np c2, chg_cell (F := fun k => on lab (.by_ a) k ∨ k = mb) (w := w4) ?_ ng k0, chg_cell (F := fun k => on lab (.by_ a) k ∨ k = mb) (w := w4) ?_ ng k1, ?_⟩ <;> simp [*])
  refine wpAnyH_take (i := 0) (oi := _) (v := ?_) (List.getElem?_toArray.trans rfl) (by kernel_rfl) (by kernel_rfl) (by kernel_rfl) (fun _ _ _ h => h) (Or.inl ⟨by rfl, ?_⟩) (by assumption) ?_
  rotate_left
  · intro w hSw; (try dsimp only at hSw); go_simp <;> with_reducible rfl
  try simp only [Act.put, List.setIfInBounds_toArray, List.set_cons_zero, List.set_cons_succ]
  refine wpAnyH_take (i := 1) (oi := _) (v := ?_) (List.getElem?_toArray.trans rfl) (by kernel_rfl) (by kernel_rfl) (by kernel_rfl) (fun _ _ _ h => h) (Or.inl ⟨by rfl, ?_⟩) (by assumption) ?_
  rotate_left
  · intro w hSw; (try dsimp only at hSw); go_simp <;> with_reducible rfl
  try simp only [Act.put, List.setIfInBounds_toArray, List.set_cons_zero, List.set_cons_succ]
  refine wpAnyH_take (i := 2) (oi := _) (v := ?_) (List.getElem?_toArray.trans rfl) (by kernel_rfl) (by kernel_rfl) (by kernel_rfl) (fun _ _ _ h => h) (Or.inl ⟨by rfl, ?_⟩) (by assumption) ?_
  rotate_left
  · intro w hSw; (try dsimp only at hSw); go_simp <;> with_reducible rfl
  try simp only [Act.put, List.setIfInBounds_toArray, List.set_cons_zero, List.set_cons_succ]
  refine wpAnyH_take (i := 3) (oi := _) (v := ?_) (List.getElem?_toArray.trans rfl) (by kernel_rfl) (by kernel_rfl) (by kernel_rfl) (fun _ _ _ h => h) (Or.inl ⟨by rfl, ?_⟩) (by assumption) ?_
  rotate_left
  · intro w hSw; (try dsimp only at hSw); go_simp <;> with_reducible rfl
  try simp only [Act.put, List.setIfInBounds_toArray, List.set_cons_zero, List.set_cons_succ]
  refine wpAnyH_take (i := 4) (oi := _) (v := ?_) (List.getElem?_toArray.trans rfl) (by kernel_rfl) (by kernel_rfl) (by kernel_rfl) (fun _ _ _ h => h) (Or.inl ⟨by rfl, ?_⟩) (by assumption) ?_
  rotate_left
  · intro w hSw; (try dsimp only at hSw); go_simp <;> with_reducible rfl
  try simp only [Act.put, List.setIfInBounds_toArray, List.set_cons_zero, List.set_cons_succ]
  refine wpAnyH_take (i := 5) (oi := _) (v := ?_) (List.getElem?_toArray.trans rfl) (by kernel_rfl) (by kernel_rfl) (by kernel_rfl) (fun _ _ _ h => h) (Or.inl ⟨by rfl, ?_⟩) (by assumption) ?_
  rotate_left
  · intro w hSw; (try dsimp only at hSw); go_simp <;> with_reducible rfl
  try simp only [Act.put, List.setIfInBounds_toArray, List.set_cons_zero, List.set_cons_succ]
  refine wpAnyH_take (i := 6) (oi := _) (v := ?_) (List.getElem?_toArray.trans rfl) (by kernel_rfl) (by kernel_rfl) (by kernel_rfl) (fun _ _ _ h => h) (Or.inl ⟨by rfl, ?_⟩) (by assumption) ?_
  rotate_left
  · intro w hSw; (try dsimp only at hSw); go_simp <;> with_reducible rfl
  try simp only [Act.put, List.setIfInBounds_toArray, List.set_cons_zero, List.set_cons_succ]
  refine wpAnyH_take (i := 7) (oi := _) (v := ?_) (List.getElem?_toArray.trans rfl) (by kernel_rfl) (by kernel_rfl) (by kernel_rfl) (fun _ _ _ h => h) (Or.inl ⟨by rfl, ?_⟩) (by assumption) ?_
  rotate_left
  · intro w hSw; (try dsimp only at hSw); go_simp <;> with_reducible rfl
  try simp only [Act.put, List.setIfInBounds_toArray, List.set_cons_zero, List.set_cons_succ]
  refine wpAnyH_take (i := 8) (oi := _) (v := ?_) (List.getElem?_toArray.trans rfl) (by kernel_rfl) (by kernel_rfl) (by kernel_rfl) (fun _ _ _ h => h) (Or.inl ⟨by rfl, ?_⟩) (by assumption) ?_
  rotate_left
  · intro w hSw; (try dsimp only at hSw); go_simp <;> with_reducible rfl
  try simp only [Act.put, List.setIfInBounds_toArray, List.set_cons_zero, List.set_cons_succ]
  refine wpAnyH_take (i := 9) (oi := _) (v := ?_) (List.getElem?_toArray.trans rfl) (by kernel_rfl) (by kernel_rfl) (by kernel_rfl) (fun _ _ _ h => h) (Or.inl ⟨by rfl, ?_⟩) (by assumption) ?_
  rotate_left
  · intro w hSw; (try dsimp only at hSw); go_simp <;> with_reducible rfl
  try simp only [Act.put, List.setIfInBounds_toArray, List.set_cons_zero, List.set_cons_succ]
  refine wpAnyH_take (i := 10) (oi := _) (v := ?_) (List.getElem?_toArray.trans rfl) (by kernel_rfl) (by kernel_rfl) (by kernel_rfl) (fun _ _ _ h => h) (Or.inl ⟨by rfl, ?_⟩) (by assumption) ?_
  rotate_left
  · intro w hSw; (try dsimp only at hSw); go_simp <;> with_reducible rfl
  try simp only [Act.put, List.setIfInBounds_toArray, List.set_cons_zero, List.set_cons_succ]
  refine wpAnyH_take (i := 11) (oi := _) (v := ?_) (List.getElem?_toArray.trans rfl) (by kernel_rfl) (by kernel_rfl) (by kernel_rfl) (fun _ _ _ h => h) (Or.inl ⟨by rfl, ?_⟩) (by assumption) ?_
  rotate_left
  · intro w hSw; (try dsimp only at hSw); go_simp <;> with_reducible rfl
  try simp only [Act.put, List.setIfInBounds_toArray, List.set_cons_zero, List.set_cons_succ]
  refine wpAnyH_take (i := 13) (oi := _) (v := ?_) (List.getElem?_toArray.trans rfl) (by kernel_rfl) (by kernel_rfl) (by kernel_rfl) (fun _ _ _ h => h) (Or.inl ⟨by rfl, ?_⟩) (by assumption) ?_
  rotate_left
  · intro w hSw; (try dsimp only at hSw); go_simp <;> with_reducible rfl
  try simp only [Act.put, List.setIfInBounds_toArray, List.set_cons_zero, List.set_cons_succ]
  refine wpAnyH_take (i := 14) (oi := _) (v := ?_) (List.getElem?_toArray.trans rfl) (by kernel_rfl) (by kernel_rfl) (by kernel_rfl) (fun _ _ _ h => h) (Or.inl ⟨by rfl, ?_⟩) (by assumption) ?_
  rotate_left
  · intro w hSw; (try dsimp only at hSw); go_simp <;> with_reducible rfl
  try simp only [Act.put, List.setIfInBounds_toArray, List.set_cons_zero, List.set_cons_succ]
  refine wpAnyH_take (i := 15) (oi := _) (v := ?_) (List.getElem?_toArray.trans rfl) (by kernel_rfl) (by kernel_rfl) (by kernel_rfl) (fun _ _ _ h => h) (Or.inl ⟨by rfl, ?_⟩) (by assumption) ?_
  rotate_left
  · intro w hSw; (try dsimp only at hSw); go_simp <;> with_reducible rfl
  try simp only [Act.put, List.setIfInBounds_toArray, List.set_cons_zero, List.set_cons_succ]
  refine wpAnyH_ready (rs := [12, 16]) (by kernel_rfl) (by simp) ?_
  refine (AllReadyH.cons (o := _) (List.getElem?_toArray.trans rfl) (fun K hK => ?_) (AllReadyH.cons (o := _) (List.getElem?_toArray.trans rfl) (fun K hK => ?_) AllReadyH.nil))
  · go_simp
    refine hK.out _ _ ?_ (fun hHeld => ?_)
    · (refine ⟨chg_cell (F := fun k => on lab (.by_ a) k ∨ k = mb) (w := w4) ?_ np c2, chg_cell (F := fun k => on lab (.by_ a) k ∨ k = mb) (w := w4) ?_ ng k0, chg_cell (F := fun k => on lab (.by_ a) k ∨ k = mb) (w := w4) ?_ ng k1, ?_⟩ <;> simp [*])
    clear hK K
    try simp only [Act.put, List.setIfInBounds_toArray, List.set_cons_zero, List.set_cons_succ]
    refine wpAnyH_ready (rs := [16]) (by kernel_rfl) (by simp) ?_
    refine (AllReadyH.cons (o := _) (List.getElem?_toArray.trans rfl) (fun K hK => ?_) AllReadyH.nil)
    go_simp
    refine hK.out _ _ ?_ (fun hHeld => ?_)
    · (refine ⟨chg_cell (F := fun k => on lab (.by_ a) k ∨ k = mb) (w := w4) ?_ np c2, chg_cell (F := fun k => on lab (.by_ a) k ∨ k = mb) (w := w4) ?_ ng k0, chg_cell (F := fun k => on lab (.by_ a) k ∨ k = mb) (w := w4) ?_ ng k1, ?_⟩ <;> simp [*])
    clear hK K
    try simp only [Act.put, List.setIfInBounds_toArray, List.set_cons_zero, List.set_cons_succ]
    refine wpAnyH_ready (rs := [17]) (by kernel_rfl) (by simp) ?_
    refine (AllReadyH.cons (o := _) (List.getElem?_toArray.trans rfl) (fun K hK => ?_) AllReadyH.nil)
    go_simp
    (with_reducible refine HI.out.mono ?_)
    rintro e w5 ⟨v', rfl, r3, r4⟩
    obtain ⟨A', c', hv', -, -⟩ := r3.toV
    obtain ⟨m', hm'⟩ : ∃ m, (ins (B a) f).length = m := ⟨_, rfl⟩
    rw [hm'] at hv'
    subst hv'
    clear hm'
    have hM5 := ((HM4.out.below (below_alloc (Below.refl _ _) (.cells #[.int .i64 f] 3))).below (below_drew (Below.refl _ _))).chg r4 nmb
    have hC5 : Chg (fun k => on lab (.by_ a) k ∨ k = mb) w4 w5 := (((Chg.refl _ w4).andBelow (below_alloc (Below.refl _ _) (.cells #[.int .i64 f] 3))).andBelow (below_drew (Below.refl _ _))).then_ r4 (fun k hk => .inl (.inl hk))
    obtain ⟨w6, hst6, hM6, hg6⟩ := hM5.store (val := .slice A' m' c') law3 Tryz.underlying48 (by have := Hcn.out; have := Ha.out.2.2.2.2.1; unfold maxLen; omega) Hkeyi.out
    have hC6 : Chg (fun k => on lab (.by_ a) k ∨ k = mb) w4 w6 := hC5.then_ (Chg.of_grown hg6 (fun k hk => by cases hk; rfl)) (fun k hk => .inl (.inr hk))
    have HM6 := Aside0.mk hM6
    have HI5 := Aside0.mk (And.intro r3 r4)
    have Hg6 := Aside0.mk hg6
    clear hM5 hM6 r3 r4 hg6
    refine hK.out _ _ ?_ (fun hHeld => ?_)
    · (refine ⟨chg_cell (F := fun k => on lab (.by_ a) k ∨ k = mb) (w := w4) ?_ np c2, chg_cell (F := fun k => on lab (.by_ a) k ∨ k = mb) (w := w4) ?_ ng k0, chg_cell (F := fun k => on lab (.by_ a) k ∨ k = mb) (w := w4) ?_ ng k1, ?_⟩ <;> simp [*])
    clear hK K
    try simp only [Act.put, List.setIfInBounds_toArray, List.set_cons_zero, List.set_cons_succ]
    refine wpAnyH_ready (rs := [18]) (by kernel_rfl) (by simp) ?_
    refine (AllReadyH.cons (o := _) (List.getElem?_toArray.trans rfl) (fun K hK => ?_) AllReadyH.nil)
    go_simp
    refine hK.out _ _ ?_ (fun hHeld => ?_)
    · (refine ⟨chg_cell (F := fun k => on lab (.by_ a) k ∨ k = mb) (w := w4) ?_ np c2, chg_cell (F := fun k => on lab (.by_ a) k ∨ k = mb) (w := w4) ?_ ng k0, chg_cell (F := fun k => on lab (.by_ a) k ∨ k = mb) (w := w4) ?_ ng k1, ?_⟩ <;> simp [*])
    clear hK K
    try simp only [Act.put, List.setIfInBounds_toArray, List.set_cons_zero, List.set_cons_succ]
    refine wpAnyH_done (by kernel_rfl) ?_ _
    have hcn3 : (if (false = true) then cn else cn + 1) ≤ cn + 1 := by simp
    have HS6 := Aside0.mk (set_kept HG.out HB2.out HS2.out HC3.out HBW.out (below_then (below_alloc (Below.refl w4.heap.size w4) (.cells #[.int .i64 f] 3)) (below_alloc (Below.refl w4.heap.size w4) (.cells #[.int .i64 f] 3)).size (below_drew (Below.refl _ _))) HI5.out.2 Hg6.out)
    have HEnd := Aside0.mk (fun (w7 : World) => put_new_end (z := z) (w7 := w7) HW.out HG.out Ha.out.1 Ha.out.2.1 Ha.out.2.2.1 HB2.out HS2.out HC3.out HM3.out hcn3 HBW.out (below_then (below_alloc (Below.refl w4.heap.size w4) (.cells #[.int .i64 f] 3)) (below_alloc (Below.refl w4.heap.size w4) (.cells #[.int .i64 f] 3)).size (below_drew (Below.refl _ _))) HI5.out.1 HI5.out.2 HM6.out (by split <;> omega) Hg6.out)
    clear hcn3
    go_wp2_with fail
    refine (add_any b _ [] z w6 HS6.out).mono ?_
    rintro e w7 ⟨rfl, r5, r6⟩
    have HP := Aside0.mk (HEnd.out w7 r5 r6)
    clear r5 r6
    go_wp2_with fail
    go_end0
    exact HP.out
  · go_simp
    refine hK.out _ _ ?_ (fun hHeld => ?_)
    · (refine ⟨chg_cell (F := fun k => on lab (.by_ a) k ∨ k = mb) (w := w4) ?_ np c2, chg_cell (F := fun k => on lab (.by_ a) k ∨ k = mb) (w := w4) ?_ ng k0, chg_cell (F := fun k => on lab (.by_ a) k ∨ k = mb) (w := w4) ?_ ng k1, ?_⟩ <;> simp [*])
    clear hK K
    try simp only [Act.put, List.setIfInBounds_toArray, List.set_cons_zero, List.set_cons_succ]
    refine wpAnyH_ready (rs := [12]) (by kernel_rfl) (by simp) ?_
    refine (AllReadyH.cons (o := _) (List.getElem?_toArray.trans rfl) (fun K hK => ?_) AllReadyH.nil)
    go_simp
    refine hK.out _ _ ?_ (fun hHeld => ?_)
    · (refine ⟨chg_cell (F := fun k => on lab (.by_ a) k ∨ k = mb) (w := w4) ?_ np c2, chg_cell (F := fun k => on lab (.by_ a) k ∨ k = mb) (w := w4) ?_ ng k0, chg_cell (F := fun k => on lab (.by_ a) k ∨ k = mb) (w := w4) ?_ ng k1, ?_⟩ <;> simp [*])
    clear hK K
    try simp only [Act.put, List.setIfInBounds_toArray, List.set_cons_zero, List.set_cons_succ]
    refine wpAnyH_ready (rs := [17]) (by kernel_rfl) (by simp) ?_
    refine (AllReadyH.cons (o := _) (List.getElem?_toArray.trans rfl) (fun K hK => ?_) AllReadyH.nil)
    go_simp
    (with_reducible refine HI.out.mono ?_)
    rintro e w5 ⟨v', rfl, r3, r4⟩
    obtain ⟨A', c', hv', -, -⟩ := r3.toV
    obtain ⟨m', hm'⟩ : ∃ m, (ins (B a) f).length = m := ⟨_, rfl⟩
    rw [hm'] at hv'
    subst hv'
    clear hm'
    have hM5 := ((HM4.out.below (below_alloc (Below.refl _ _) (.cells #[.int .i64 f] 3))).below (below_drew (Below.refl _ _))).chg r4 nmb
    have hC5 : Chg (fun k => on lab (.by_ a) k ∨ k = mb) w4 w5 := (((Chg.refl _ w4).andBelow (below_alloc (Below.refl _ _) (.cells #[.int .i64 f] 3))).andBelow (below_drew (Below.refl _ _))).then_ r4 (fun k hk => .inl (.inl hk))
    obtain ⟨w6, hst6, hM6, hg6⟩ := hM5.store (val := .slice A' m' c') law3 Tryz.underlying48 (by have := Hcn.out; have := Ha.out.2.2.2.2.1; unfold maxLen; omega) Hkeyi.out
    have hC6 : Chg (fun k => on lab (.by_ a) k ∨ k = mb) w4 w6 := hC5.then_ (Chg.of_grown hg6 (fun k hk => by cases hk; rfl)) (fun k hk => .inl (.inr hk))
    have HM6 := Aside0.mk hM6
    have HI5 := Aside0.mk (And.intro r3 r4)
    have Hg6 := Aside0.mk hg6
    clear hM5 hM6 r3 r4 hg6
    refine hK.out _ _ ?_ (fun hHeld => ?_)
    · (refine ⟨chg_cell (F := fun k => on lab (.by_ a) k ∨ k = mb) (w := w4) ?_ np c2, chg_cell (F := fun k => on lab (.by_ a) k ∨ k = mb) (w := w4) ?_ ng k0, chg_cell (F := fun k => on lab (.by_ a) k ∨ k = mb) (w := w4) ?_ ng k1, ?_⟩ <;> simp [*])
    clear hK K
    try simp only [Act.put, List.setIfInBounds_toArray, List.set_cons_zero, List.set_cons_succ]
    refine wpAnyH_ready (rs := [18]) (by kernel_rfl) (by simp) ?_
    refine (AllReadyH.cons (o := _) (List.getElem?_toArray.trans rfl) (fun K hK => ?_) AllReadyH.nil)
    go_simp
    refine hK.out _ _ ?_ (fun hHeld => ?_)
    · (refine ⟨chg_cell (F := fun k => on lab (.by_ a) k ∨ k = mb) (w := w4) ?_ np c2, chg_cell (F := fun k => on lab (.by_ a) k ∨ k = mb) (w := w4) ?_ ng k0, chg_cell (F := fun k => on lab (.by_ a) k ∨ k = mb) (w := w4) ?_ ng k1, ?_⟩ <;> simp [*])
    clear hK K
    try simp only [Act.put, List.setIfInBounds_toArray, List.set_cons_zero, List.set_cons_succ]
    refine wpAnyH_done (by kernel_rfl) ?_ _
    have hcn3 : (if (false = true) then cn else cn + 1) ≤ cn + 1 := by simp
    have HS6 := Aside0.mk (set_kept HG.out HB2.out HS2.out HC3.out HBW.out (below_then (below_alloc (Below.refl w4.heap.size w4) (.cells #[.int .i64 f] 3)) (below_alloc (Below.refl w4.heap.size w4) (.cells #[.int .i64 f] 3)).size (below_drew (Below.refl _ _))) HI5.out.2 Hg6.out)
    have HEnd := Aside0.mk (fun (w7 : World) => put_new_end (z := z) (w7 := w7) HW.out HG.out Ha.out.1 Ha.out.2.1 Ha.out.2.2.1 HB2.out HS2.out HC3.out HM3.out hcn3 HBW.out (below_then (below_alloc (Below.refl w4.heap.size w4) (.cells #[.int .i64 f] 3)) (below_alloc (Below.refl w4.heap.size w4) (.cells #[.int .i64 f] 3)).size (below_drew (Below.refl _ _))) HI5.out.1 HI5.out.2 HM6.out (by split <;> omega) Hg6.out)
    clear hcn3
    go_wp2_with fail
    refine (add_any b _ [] z w6 HS6.out).mono ?_
    rintro e w7 ⟨rfl, r5, r6⟩
    have HP := Aside0.mk (HEnd.out w7 r5 r6)
    clear r5 r6
    go_wp2_with fail
    go_end0
    exact HP.out
end Go.Proofs.YtfgonclaiphoeaaGreatDoor.Gr
