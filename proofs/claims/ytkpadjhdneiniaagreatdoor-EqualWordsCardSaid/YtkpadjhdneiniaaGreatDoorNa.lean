/- Pairs of the document: rows of three lists; winnowerref24.met. -/
import Derived.Test.YtkpadjhdneiniaaGreatDoorEk
namespace Go.Proofs.YtkpadjhdneiniaaGreatDoor.Am
set_option linter.unusedVariables false
open Go.RowKit Go.Proofs.YtkpadjhdneiniaaGreatDoorW.PrintWords Go.Proofs.YtkpadjhdneiniaaGreatDoorW.PrintLast Go.Proofs.YtkpadjhdneiniaaGreatDoorW.PrintMore Go.Maps
open Go.Proofs.YtkpadjhdneiniaaGreatDoor.Base Go.Proofs.YtkpadjhdneiniaaGreatDoor.Map Go.Proofs.YtkpadjhdneiniaaGreatDoor.Sl Go.Proofs.YtkpadjhdneiniaaGreatDoor.Ow Go.Proofs.YtkpadjhdneiniaaGreatDoor.Se Go.Proofs.YtkpadjhdneiniaaGreatDoor.Gr Go.Proofs.YtkpadjhdneiniaaGreatDoor.Rf Go.Proofs.YtkpadjhdneiniaaGreatDoor.Tx Go.Proofs.YtkpadjhdneiniaaGreatDoor.Au



open Go.Proofs.YtkpadjhdneiniaaGreatDoor.Eb
/-! the document's pairs: rows of three lists -/
abbrev Tp := SlH × SlH × SlH
abbrev noT : Tp := (noH, noH, noH)
def tripT (e : Tp) : List Value := [encH e.1, encH e.2.1, encH e.2.2]
def kT : Kd Tp where
  sz := 3
  E := []
  K := fun _ e cs => cs = tripT e
  M := fun _ _ _ e cs => cs = tripT e
  K_len := fun h => by rw [h]; rfl
  K_one := fun h u hu => by rw [h] at hu; simp only [tripT, List.mem_cons, List.not_mem_nil, or_false] at hu; rcases hu with rfl | rfl | rfl <;> rfl
  K_below := fun _ h => h
  K_of_M := fun h => h
  M_mono := fun _ h => h
  M_bound := fun h => h
  M_move := fun _ h => h
  M_lower := fun _ h => h
theorem info110 : (Tryz.prog.info? 110).map (fun i => (i.zero, i.size, i.bytes)) = some (some (.agg #[.slice none 0 0, .slice none 0 0, .slice none 0 0]), 3, 72) := by kernel_rfl
theorem C_atT {w : World} {A : Option Addr} {l : List Tp} (h : kT.C w A l.length l) (i : Nat) (hi : i < l.length) :
    ∃ ad, A = some ad ∧ w.cell? (ad.add (i * 3)) = some (encH (l.getD i noT).1) ∧ w.cell? ⟨(ad.add (i * 3)).block, (ad.add (i * 3)).off + 1, none⟩ = some (encH (l.getD i noT).2.1) ∧ w.cell? ⟨(ad.add (i * 3)).block, (ad.add (i * 3)).off + 2, none⟩ = some (encH (l.getD i noT).2.2) := by
  obtain ⟨ad, c, hA, _, hk, hc⟩ := Kd.C_get h noT (i : Int) (by omega) (by omega)
  rw [Int.toNat_natCast] at hk hc
  have hk' : c = tripT (l.getD i noT) := hk
  subst hk'
  have e : ∀ j, j ≠ 0 → ad.add (i * 3 + j) = ⟨(ad.add (i * 3)).block, (ad.add (i * 3)).off + j, none⟩ := fun j hj => by
    unfold Addr.add
    rw [if_neg (by omega)]
    split
    · simp
    · simp; omega
  refine ⟨ad, hA, hc 0 _ rfl, ?_, ?_⟩
  · rw [← e 1 (by omega)]; exact hc 1 _ rfl
  · rw [← e 2 (by omega)]; exact hc 2 _ rfl
/-- v reads as pairs with their words -/
structure RdQ (w : World) (v : Value) (P : List Pr) : Prop where
  mk :: (out : ∃ A c, v = .slice A P.length c ∧ P.length ≤ c ∧ ∀ j, j < P.length → ∃ ad x y z, A = some ad ∧ w.cell? (ad.add (j * 3)) = some (encH x) ∧ w.cell? ⟨(ad.add (j * 3)).block, (ad.add (j * 3)).off + 1, none⟩ = some (encH y) ∧ w.cell? ⟨(ad.add (j * 3)).block, (ad.add (j * 3)).off + 2, none⟩ = some (encH z) ∧
    RdV w (encH x) (P.getD j noP).1 ∧ RdV w (encH y) (P.getD j noP).2.1 ∧ RdV w (encH z) (P.getD j noP).2.2)
theorem RdQ.below {w w1 : World} {v : Value} {P : List Pr} (h : RdQ w v P) (hb : Below w.heap.size w w1) : RdQ w1 v P := by
  obtain ⟨A, c, h1, h2, h3⟩ := h
  refine ⟨A, c, h1, h2, fun j hj => ?_⟩
  obtain ⟨ad, x, y, z, e1, e2, e3, e4, e5, e6, e7⟩ := h3 j hj
  exact ⟨ad, x, y, z, e1, pw_cell_below hb e2, pw_cell_below hb e3, pw_cell_below hb e4, e5.below hb, e6.below hb, e7.below hb⟩
theorem RdQ.at_ {w : World} {A : Option Addr} {n c : Nat} {P : List Pr} (h : RdQ w (.slice A n c) P) {j : Nat} (hj : j < P.length) : ∃ ad xA xn xc yA yn yc zA zn zc, A = some ad ∧ w.cell? (ad.add (j * 3)) = some (.slice xA xn xc) ∧ w.cell? ⟨(ad.add (j * 3)).block, (ad.add (j * 3)).off + 1, none⟩ = some (.slice yA yn yc) ∧ w.cell? ⟨(ad.add (j * 3)).block, (ad.add (j * 3)).off + 2, none⟩ = some (.slice zA zn zc) ∧
    RdV w (.slice xA xn xc) (P.getD j noP).1 ∧ RdV w (.slice yA yn yc) (P.getD j noP).2.1 ∧ RdV w (.slice zA zn zc) (P.getD j noP).2.2 := by
  obtain ⟨A', c', h1, h2, h3⟩ := h
  cases h1
  obtain ⟨ad, ⟨xA, xn, xc⟩, ⟨yA, yn, yc⟩, ⟨zA, zn, zc⟩, e1, e2, e3, e4, e5, e6, e7⟩ := h3 j hj
  exact ⟨ad, xA, xn, xc, yA, yn, yc, zA, zn, zc, e1, e2, e3, e4, e5, e6, e7⟩
theorem RdQ.len {w : World} {v : Value} {P : List Pr} (h : RdQ w v P) : ∃ A c, v = .slice A P.length c := by
  obtain ⟨A, c, h1, h2, h3⟩ := h
  exact ⟨A, c, h1⟩
/-- v is made of F, and reads so whatever changes of F -/
structure OwQ (w : World) (F : Nat → Prop) (v : Value) (P : List Pr) : Prop where
  mk :: (out : ∃ hs : List Tp, Kd.R kT 110 w 0 F v hs ∧ hs.length = P.length ∧ ∀ j, j < P.length → Stay F w (encH (hs.getD j noT).1) (P.getD j noP).1 ∧ Stay F w (encH (hs.getD j noT).2.1) (P.getD j noP).2.1 ∧ Stay F w (encH (hs.getD j noT).2.2) (P.getD j noP).2.2)
theorem OwQ.toQ {w : World} {F : Nat → Prop} {v : Value} {P : List Pr} (h : OwQ w F v P) : RdQ w v P := by
  obtain ⟨hs, h2, h3, h4⟩ := h
  obtain ⟨A, c, rfl, hc, hr⟩ := Kd.R_reads h2
  refine ⟨A, c, by rw [h3], by omega, fun j hj => ?_⟩
  obtain ⟨ad, hA, e1, e2, e3⟩ := C_atT hr j (by omega)
  exact ⟨ad, _, _, _, hA, e1, e2, e3, (h4 j hj).1.rd, (h4 j hj).2.1.rd, (h4 j hj).2.2.rd⟩
theorem OwQ.below {w w1 : World} {F : Nat → Prop} {v : Value} {P : List Pr} (h : OwQ w F v P) (hb : Below w.heap.size w w1) : OwQ w1 F v P := by
  obtain ⟨hs, h2, h3, h4⟩ := h
  exact ⟨hs, Kd.R_below h2 hb, h3, fun j hj => ⟨(h4 j hj).1.below hb, (h4 j hj).2.1.below hb, (h4 j hj).2.2.below hb⟩⟩
theorem OwQ.at_ {w : World} {F : Nat → Prop} {A : Option Addr} {n c : Nat} {P : List Pr} (h : OwQ w F (.slice A n c) P) {j : Nat} (hj : j < P.length) : ∃ ad xA xn xc yA yn yc zA zn zc, A = some ad ∧ w.cell? (ad.add (j * 3)) = some (.slice xA xn xc) ∧ w.cell? ⟨(ad.add (j * 3)).block, (ad.add (j * 3)).off + 1, none⟩ = some (.slice yA yn yc) ∧ w.cell? ⟨(ad.add (j * 3)).block, (ad.add (j * 3)).off + 2, none⟩ = some (.slice zA zn zc) ∧
    Stay F w (.slice xA xn xc) (P.getD j noP).1 ∧ Stay F w (.slice yA yn yc) (P.getD j noP).2.1 ∧ Stay F w (.slice zA zn zc) (P.getD j noP).2.2 := by
  obtain ⟨hs, h2, h3, h4⟩ := h
  obtain ⟨A', c', e, hc, hr⟩ := Kd.R_reads h2
  injection e with ea eb ec
  subst ea
  obtain ⟨ad, hA, e1, e2, e3⟩ := C_atT hr j (by omega)
  exact ⟨ad, _, _, _, _, _, _, _, _, _, hA, e1, e2, e3, (h4 j hj).1, (h4 j hj).2.1, (h4 j hj).2.2⟩
/-- one more -/
theorem OwQ.snoc {w w2 : World} {F : Nat → Prop} {v2 : Value} {P : List Pr} {hs : List Tp} {x : Tp} {p : Pr} (h3 : hs.length = P.length)
    (h4 : ∀ j, j < P.length → Stay F w (encH (hs.getD j noT).1) (P.getD j noP).1 ∧ Stay F w (encH (hs.getD j noT).2.1) (P.getD j noP).2.1 ∧ Stay F w (encH (hs.getD j noT).2.2) (P.getD j noP).2.2)
    (hu : Stay F w (encH x.1) p.1 ∧ Stay F w (encH x.2.1) p.2.1 ∧ Stay F w (encH x.2.2) p.2.2)
    (hR : Kd.R kT 110 w2 0 (ext F w w2) v2 (hs ++ [x])) (hC : Chg F w w2) : OwQ w2 (ext F w w2) v2 (P ++ [p]) := by
  have hF : ∀ k, ext F w w2 k → F k ∨ w.heap.size ≤ k := fun k hk => hk.elim .inl (fun h => .inr h.1)
  refine ⟨hs ++ [x], hR, by simp [h3], fun j hj => ?_⟩
  rw [List.length_append, List.length_singleton] at hj
  by_cases e : j < P.length
  · rw [getD_old hs x noT (by omega), getD_old P p noP e]
    exact ⟨(h4 j e).1.next hC hF, (h4 j e).2.1.next hC hF, (h4 j e).2.2.next hC hF⟩
  · obtain rfl : j = P.length := by omega
    have e1 : (hs ++ [x]).getD P.length noT = x := by rw [← h3]; exact getD_new hs x noT
    rw [e1, getD_new P p noP]
    exact ⟨hu.1.next hC hF, hu.2.1.next hC hF, hu.2.2.next hC hF⟩
theorem tripT_one {w : World} {F : Nat → Prop} {g : Nat} {x : Tp} (hF : F g) (hg : w.heap[g]? = some (.cells #[encH x.1, encH x.2.1, encH x.2.2] 110 (0, 0))) : Kd.R kT 110 w 0 F (.slice (some ⟨g, 0, none⟩) 1 1) [x] :=
  ⟨fun k hk => by cases hk; exact hF, tripT x, ⟨rfl, .inr ⟨g, 1, #[encH x.1, encH x.2.1, encH x.2.2], rfl, Nat.zero_le _, hg, Nat.le_refl _, by unfold maxLen; omega, rfl, rfl⟩⟩, ⟨rfl, fun j p hj => by
    cases j with
    | zero => have e : p = x := by simpa using hj.symm
              subst e; rfl
    | succ j => simp at hj⟩⟩
/-- one, in a block of its own -/
theorem OwQ.one {w : World} {F : Nat → Prop} {g : Nat} {x : Tp} {p : Pr} (hF : F g) (hg : w.heap[g]? = some (.cells #[encH x.1, encH x.2.1, encH x.2.2] 110 (0, 0))) (hu : Stay F w (encH x.1) p.1 ∧ Stay F w (encH x.2.1) p.2.1 ∧ Stay F w (encH x.2.2) p.2.2) : OwQ w F (.slice (some ⟨g, 0, none⟩) 1 1) [p] :=
  ⟨[x], tripT_one hF hg, rfl, fun j hj => by
    obtain rfl : j = 0 := by simpa using hj
    exact hu⟩
/-! how many pairs there may be -/
def bothP (P : List Pr) : List (List Int × List Int) := P.map fun e => (e.1, e.2.1)
structure PI (n : Nat) (P : List Pr) : Prop where
  nodup : (bothP P).Nodup
  sm : ∀ e ∈ P, Sm n e.1 ∧ Sm n e.2.1
theorem allP_len (n : Nat) (L : List (List Int)) : (L.flatMap fun a => (allSm n).map fun b => (a, b)).length = L.length * 2 ^ n := by
  induction L with
  | nil => simp
  | cons a L ih => rw [List.flatMap_cons, List.length_append, ih, List.length_map, allSm_len, List.length_cons, Nat.add_mul]; omega
theorem PI.len {n : Nat} {P : List Pr} (h : PI n P) : P.length ≤ 2 ^ n * 2 ^ n := by
  have h1 := nodup_len (bothP P) ((allSm n).flatMap fun a => (allSm n).map fun b => (a, b)) h.nodup (fun x hx => by
    unfold bothP at hx
    obtain ⟨e, he, rfl⟩ := List.mem_map.1 hx
    exact List.mem_flatMap.2 ⟨e.1, mem_allSm (h.sm e he).1, List.mem_map.2 ⟨e.2.1, mem_allSm (h.sm e he).2, rfl⟩⟩)
  rw [allP_len, allSm_len] at h1
  unfold bothP at h1
  rw [List.length_map] at h1; exact h1
theorem PI.len8 {n : Nat} {P : List Pr} (h : PI n P) (hn : n ≤ 8) : P.length ≤ 65536 := by
  have h1 := h.len
  have h2 : 2 ^ n ≤ 2 ^ 8 := Nat.pow_le_pow_right (by decide) hn
  have h3 : 2 ^ n * 2 ^ n ≤ 2 ^ 8 * 2 ^ 8 := Nat.mul_le_mul h2 h2
  omega
theorem PI.start {n : Nat} {a b : List Int} (ha : Sm n a) (hb : Sm n b) : PI n [(a, b, [])] := ⟨by simp [bothP], fun e he => by rw [List.mem_singleton] at he; subst he; exact ⟨ha, hb⟩⟩
theorem PI.snoc {n : Nat} {P : List Pr} (h : PI n P) {a b wd : List Int} (ha : Sm n a) (hb : Sm n b) (hn : (a, b) ∉ bothP P) : PI n (P ++ [(a, b, wd)]) :=
  ⟨by
    unfold bothP
    rw [List.map_append, List.map_singleton, List.nodup_append]
    exact ⟨h.nodup, by simp, fun x hx y hy => by rw [List.mem_singleton] at hy; subst hy; exact fun e => hn (e ▸ hx)⟩,
   fun e he => (List.mem_append.1 he).elim (h.sm e) (fun he => by rw [List.mem_singleton] at he; subst he; exact ⟨ha, hb⟩)⟩
/-- a pair's word is no longer than its number -/
theorem Bfs.wlen {T : List ByteArray} {E : List GE} {s s' : List Int} {P : List Pr} {i : Nat} {dn : List Int} (h : Bfs T E s s' P i dn) : ∀ m k, k ≤ m → k < P.length → (P.getD k noP).2.2.length ≤ k
  | m, k, hm, hk => by
    rcases h.top k hk with e | ⟨p, g, h1, h2, h3, h4⟩
    · rw [e]; simp
    · have hlt : p < k := by
        rcases Nat.lt_or_ge p k with hl | hl
        · exact hl
        · exfalso
          have hw : (P.getD k noP).2.2.length = (P.getD p noP).2.2.length + 1 := by rw [h3]; simp
          rcases Nat.lt_or_eq_of_le hl with hl | rfl
          · rcases h.rise k p hl h2 with q | ⟨q, -⟩ <;> omega
          · omega
      cases m with
      | zero => omega
      | succ m =>
        have := h.wlen m p (by omega) h2
        rw [h3, List.length_append, List.length_singleton]; omega
theorem take_snocP {P : List Pr} {i : Nat} (hi : i < P.length) : bothP (P.take (i + 1)) = bothP (P.take i) ++ [((P.getD i noP).1, (P.getD i noP).2.1)] := by
  rw [List.take_succ_eq_append_getElem hi, bothP, List.map_append]; simp [bothP, List.getElem?_eq_getElem hi]
set_option maxHeartbeats 8000000 in
set_option maxRecDepth 100000 in
/-- winnowerref24.met -/
theorem met_any (v : Value) (P : List Pr) (xA yA zA : Option Addr) (xn xc yn yc zn zc : Nat) (a b : List Int) (w : World) (hv : RdQ w v P) (hx : RdV w (.slice xA xn xc) a) (hy : RdV w (.slice yA yn yc) b) (hl : P.length ≤ 1000000) :
    Calls Tryz.prog 75 #[v, .agg #[.slice xA xn xc, .slice yA yn yc, .slice zA zn zc]] w fun e w' => e = .returned (.bool (decide ((a, b) ∈ bothP P))) ∧ Below w.heap.size w w' := by
  obtain ⟨A, c, rfl⟩ := hv.len
  obtain ⟨W, hW⟩ : ∃ W, w.alloc (.cells #[.slice xA xn xc, .slice yA yn yc, .slice zA zn zc] 110) = W := ⟨_, rfl⟩
  have HBW := Aside0.mk (show Below w.heap.size w W by rw [← hW]; exact below_alloc (Below.refl _ _) _)
  have Hb := Aside0.mk (show W.heap[w.heap.size]? = some (.cells #[.slice xA xn xc, .slice yA yn yc, .slice zA zn zc] 110 (0, 0)) by rw [← hW]; exact heap_alloc_new _ _)
  obtain ⟨g, hg⟩ : ∃ g, w.heap.size = g := ⟨_, rfl⟩
  rw [hg] at Hb
  have HV := Aside0.mk (hv.below HBW.out)
  have HU := Aside0.mk (And.intro (hx.below HBW.out) (hy.below HBW.out))
  obtain ⟨r, hr⟩ : ∃ r, decide ((a, b) ∈ bothP P) = r := ⟨_, rfl⟩
  rw [hr]
  have Hr := Aside0.mk hr
  obtain ⟨n, hn⟩ : ∃ n, P.length = n := ⟨_, rfl⟩
  have Hn := Aside0.mk (And.intro hn hl)
  rw [hn] at HV ⊢
  clear hv hx hy hr hl hn
  go_enter Tryz.func75, Tryz.ntmps75
  go_wp2_with fail
  try simp only [hg, hW]
  clear hW
  go_loopw [5] (fun I wr => ∃ i : Nat, I = .int .i64 (i : Int) ∧ i ≤ n ∧ Aside0 ((a, b) ∉ bothP (P.take i)) ∧ Aside0 (Below W.heap.size W wr)) (fun I _ => n - (intOf I).toNat)
  case atStart => exact ⟨0, rfl, Nat.zero_le _, ⟨by simp [bothP]⟩, ⟨Below.refl _ _⟩⟩
  case round =>
    obtain ⟨i, rfl, hi, HE, HB⟩ := hrel
    by_cases hin : i < n
    · have hnb : decide ((i : Int) < (n : Int)) = true := decide_eq_true (by omega)
      have hnc : decide (i < n) = true := decide_eq_true hin
      have hil : i < P.length := by rw [Hn.out.1]; exact hin
      obtain ⟨ad, pA, pn, pc, qA, qn, qc, uA, un, uc, rfl, e0, e1, e2, e3, e4, -⟩ := (HV.out.below HB.out).at_ hil
      have HS1 := Aside0.mk (fun (W' : World) (hb : Below wr.heap.size wr W') => same_any (.slice pA pn pc) (.slice xA xn xc) (P.getD i noP).1 a W' (e3.below hb) (HU.out.1.below (bel_trans HB.out hb)))
      have HS2 := Aside0.mk (fun (W' : World) (hb : Below wr.heap.size wr W') => same_any (.slice qA qn qc) (.slice yA yn yc) (P.getD i noP).2.1 b W' (e4.below hb) (HU.out.2.below (bel_trans HB.out hb)))
      have i0 : 0 ≤ (i : Int) := by omega
      have i1 : (i : Int) < (n : Int) := by omega
      have i3 : (i : Int) < 1000000 := by have := Hn.out; omega
      have Hin := Aside0.mk (And.intro hin hil)
      have g0 : wr.cell? ⟨g, 0, none⟩ = some (.slice xA xn xc) := blk_cellD (Ow.blk_below Hb.out HB.out) 0 _ rfl
      have g1 : wr.cell? ⟨g, 1, none⟩ = some (.slice yA yn yc) := blk_cellD (Ow.blk_below Hb.out HB.out) 1 _ rfl
      clear hin hi hil e3 e4
      replace i0 := eq_true i0
      replace i1 := eq_true i1
      have HBr := Below.refl wr.heap.size wr
      obtain ⟨B1, hB1⟩ : ∃ B, decide ((P.getD i noP).1 = a) = B := ⟨_, rfl⟩
      obtain ⟨B2, hB2⟩ : ∃ B, decide ((P.getD i noP).2.1 = b) = B := ⟨_, rfl⟩
      rw [hB1] at HS1
      rw [hB2] at HS2
      have HBB := Aside0.mk (And.intro hB1 hB2)
      clear hB1 hB2
      cases B1 with
      | false =>
        have HE' : Aside0 ((a, b) ∉ bothP (P.take (i + 1))) := ⟨by
          rw [take_snocP Hin.out.2]; intro h
          rcases List.mem_append.1 h with h | h
          · exact HE.out h
          · rw [List.mem_singleton, Prod.mk.injEq] at h
            exact of_decide_eq_false HBB.out.1 h.1.symm⟩
        go_wp2_with fail
        refine wp_region_held_drew (S := (fun W' => W'.cell? ⟨g, 0, none⟩ = some (.slice xA xn xc) ∧ W'.cell? (ad.add (i * 3)) = some (.slice pA pn pc) ∧ Below wr.heap.size wr W')) (by kernel_rfl) ?_ (fun hHeld => ?_)
        · exact ⟨bel_cell (below_drew HBr) g0, pw_cell_below (below_drew HBr) e0, below_drew HBr⟩
        refine wpAnyH_take (i := 0) (oi := _) (v := ?_) (List.getElem?_toArray.trans rfl) (by kernel_rfl) (by kernel_rfl) (by kernel_rfl) (fun _ _ _ h => h) (Or.inl ⟨by rfl, ?_⟩) (by assumption) ?_
        rotate_left
        · intro w hSw; (try dsimp only at hSw); go_simp <;> with_reducible rfl
        try simp only [Act.put, List.setIfInBounds_toArray, List.set_cons_zero, List.set_cons_succ]
        refine wpAnyH_take (i := 1) (oi := _) (v := ?_) (List.getElem?_toArray.trans rfl) (by kernel_rfl) (by kernel_rfl) (by kernel_rfl) (fun _ _ _ h => h) (Or.inl ⟨by rfl, ?_⟩) (by assumption) ?_
        rotate_left
        · intro w hSw; (try dsimp only at hSw); go_simp <;> with_reducible rfl
        try simp only [Act.put, List.setIfInBounds_toArray, List.set_cons_zero, List.set_cons_succ]
        refine wpAnyH_take (i := 2) (oi := _) (v := ?_) (List.getElem?_toArray.trans rfl) (by kernel_rfl) (by kernel_rfl) (by kernel_rfl) (fun _ _ _ h => h) (Or.inl ⟨by rfl, ?_⟩) (by assumption) ?_
        rotate_left
        · intro w hSw; (try dsimp only at hSw); go_simp <;> with_reducible rfl
        try simp only [Act.put, List.setIfInBounds_toArray, List.set_cons_zero, List.set_cons_succ]
        refine wpAnyH_take (i := 3) (oi := _) (v := ?_) (List.getElem?_toArray.trans rfl) (by kernel_rfl) (by kernel_rfl) (by kernel_rfl) (fun _ _ _ h => h) (Or.inl ⟨by rfl, ?_⟩) (by assumption) ?_
        rotate_left
        · intro w hSw; (try dsimp only at hSw); go_simp <;> with_reducible rfl
        try simp only [Act.put, List.setIfInBounds_toArray, List.set_cons_zero, List.set_cons_succ]
        refine wpAnyH_take (i := 4) (oi := _) (v := ?_) (List.getElem?_toArray.trans rfl) (by kernel_rfl) (by kernel_rfl) (by kernel_rfl) (fun _ _ _ h => h) (Or.inl ⟨by rfl, ?_⟩) (by assumption) ?_
        rotate_left
        · intro w hSw; (try dsimp only at hSw); go_simp <;> with_reducible rfl
        try simp only [Act.put, List.setIfInBounds_toArray, List.set_cons_zero, List.set_cons_succ]
        refine wpAnyH_take (i := 5) (oi := _) (v := ?_) (List.getElem?_toArray.trans rfl) (by kernel_rfl) (by kernel_rfl) (by kernel_rfl) (fun _ _ _ h => h) (Or.inl ⟨by rfl, ?_⟩) (by assumption) ?_
        rotate_left
        · intro w hSw; (try dsimp only at hSw); go_simp <;> with_reducible rfl
        try simp only [Act.put, List.setIfInBounds_toArray, List.set_cons_zero, List.set_cons_succ]
        refine wpAnyH_take (i := 6) (oi := _) (v := ?_) (List.getElem?_toArray.trans rfl) (by kernel_rfl) (by kernel_rfl) (by kernel_rfl) (fun _ _ _ h => h) (Or.inl ⟨by rfl, ?_⟩) (by assumption) ?_
        rotate_left
        · intro w hSw; (try dsimp only at hSw); go_simp <;> with_reducible rfl
        try simp only [Act.put, List.setIfInBounds_toArray, List.set_cons_zero, List.set_cons_succ]
        refine wpAnyH_ready (rs := [7]) (by kernel_rfl) (by simp) ?_
        refine AllReadyH.cons (o := _) (List.getElem?_toArray.trans rfl) (fun K hK => ?_) AllReadyH.nil
        go_simp
        (go_at_call 35; (with_reducible refine (HS1.out _ (below_drew HBr)).mono ?_); rintro e w2 ⟨rfl, r1⟩; have HB9 := bel_trans (wb := wr) (below_drew HBr) r1; clear r1)
        refine hK.out _ _ ?_ (fun hHeld => ?_)
        · exact ⟨bel_cell HB9 g0, pw_cell_below HB9 e0, HB9⟩
        clear hK K
        try simp only [Act.put, List.setIfInBounds_toArray, List.set_cons_zero, List.set_cons_succ]
        refine wpAnyH_take (i := 8) (oi := _) (v := ?_) (List.getElem?_toArray.trans rfl) (by kernel_rfl) (by kernel_rfl) (by kernel_rfl) (fun _ _ _ h => h) (Or.inl ⟨by rfl, ?_⟩) (by assumption) ?_
        rotate_left
        · intro w hSw; (try dsimp only at hSw); go_simp <;> with_reducible rfl
        try simp only [Act.put, List.setIfInBounds_toArray, List.set_cons_zero, List.set_cons_succ]
        refine wpAnyH_take (i := 9) (oi := _) (v := undef) (List.getElem?_toArray.trans rfl) (by kernel_rfl) (by kernel_rfl) (by kernel_rfl) (fun _ _ _ h => h) (Or.inr ⟨by rfl, rfl⟩) (by assumption) ?_
        try simp only [Act.put, List.setIfInBounds_toArray, List.set_cons_zero, List.set_cons_succ]
        refine wpAnyH_take (i := 10) (oi := _) (v := undef) (List.getElem?_toArray.trans rfl) (by kernel_rfl) (by kernel_rfl) (by kernel_rfl) (fun _ _ _ h => h) (Or.inr ⟨by rfl, rfl⟩) (by assumption) ?_
        try simp only [Act.put, List.setIfInBounds_toArray, List.set_cons_zero, List.set_cons_succ]
        refine wpAnyH_take (i := 11) (oi := _) (v := undef) (List.getElem?_toArray.trans rfl) (by kernel_rfl) (by kernel_rfl) (by kernel_rfl) (fun _ _ _ h => h) (Or.inr ⟨by rfl, rfl⟩) (by assumption) ?_
        try simp only [Act.put, List.setIfInBounds_toArray, List.set_cons_zero, List.set_cons_succ]
        refine wpAnyH_take (i := 12) (oi := _) (v := undef) (List.getElem?_toArray.trans rfl) (by kernel_rfl) (by kernel_rfl) (by kernel_rfl) (fun _ _ _ h => h) (Or.inr ⟨by rfl, rfl⟩) (by assumption) ?_
        try simp only [Act.put, List.setIfInBounds_toArray, List.set_cons_zero, List.set_cons_succ]
        refine wpAnyH_take (i := 13) (oi := _) (v := undef) (List.getElem?_toArray.trans rfl) (by kernel_rfl) (by kernel_rfl) (by kernel_rfl) (fun _ _ _ h => h) (Or.inr ⟨by rfl, rfl⟩) (by assumption) ?_
        try simp only [Act.put, List.setIfInBounds_toArray, List.set_cons_zero, List.set_cons_succ]
        refine wpAnyH_take (i := 14) (oi := _) (v := undef) (List.getElem?_toArray.trans rfl) (by kernel_rfl) (by kernel_rfl) (by kernel_rfl) (fun _ _ _ h => h) (Or.inr ⟨by rfl, rfl⟩) (by assumption) ?_
        try simp only [Act.put, List.setIfInBounds_toArray, List.set_cons_zero, List.set_cons_succ]
        refine wpAnyH_take (i := 15) (oi := _) (v := undef) (List.getElem?_toArray.trans rfl) (by kernel_rfl) (by kernel_rfl) (by kernel_rfl) (fun _ _ _ h => h) (Or.inr ⟨by rfl, rfl⟩) (by assumption) ?_
        try simp only [Act.put, List.setIfInBounds_toArray, List.set_cons_zero, List.set_cons_succ]
        refine wpAnyH_take (i := 16) (oi := _) (v := undef) (List.getElem?_toArray.trans rfl) (by kernel_rfl) (by kernel_rfl) (by kernel_rfl) (fun _ _ _ h => h) (Or.inr ⟨by rfl, rfl⟩) (by assumption) ?_
        try simp only [Act.put, List.setIfInBounds_toArray, List.set_cons_zero, List.set_cons_succ]
        refine wpAnyH_take (i := 17) (oi := _) (v := ?_) (List.getElem?_toArray.trans rfl) (by kernel_rfl) (by kernel_rfl) (by kernel_rfl) (fun _ _ _ h => h) (Or.inl ⟨by rfl, ?_⟩) (by assumption) ?_
        rotate_left
        · intro w hSw; (try dsimp only at hSw); go_simp <;> with_reducible rfl
        try simp only [Act.put, List.setIfInBounds_toArray, List.set_cons_zero, List.set_cons_succ]
        refine wpAnyH_done (by kernel_rfl) ?_ _
        rename_i hHeld
        have HB2 := Aside0.mk (bel_trans HB.out HB9)
        clear hHeld HB9 HBr g0 g1 e0 e1
        go_wp2_with fail
        go_roundw
        case rel => exact ⟨i + 1, by go_num, Hin.out.1, HE', HB2⟩
        case measure => have := Hin.out.1; simp [intOf]; omega
      | true =>
        go_wp2_with fail
        go_region_held3 (fun W' => W'.cell? ⟨g, 0, none⟩ = some (.slice xA xn xc) ∧ W'.cell? ⟨g, 1, none⟩ = some (.slice yA yn yc) ∧ W'.cell? (ad.add (i * 3)) = some (.slice pA pn pc) ∧ W'.cell? ⟨(ad.add (i * 3)).block, (ad.add (i * 3)).off + 1, none⟩ = some (.slice qA qn qc) ∧ Below wr.heap.size wr W') (first | (refine ⟨pw_cell_below (w := wr) ?_ g0, pw_cell_below (w := wr) ?_ g1, pw_cell_below (w := wr) ?_ e0, pw_cell_below (w := wr) ?_ e1, ?_⟩ <;> simp [*]) | go_keep)
          (first
            | (go_at_call 35; (with_reducible refine (HS1.out _ (by simp [*])).mono ?_); rintro e w2 ⟨rfl, r1⟩; have HB9 := bel_trans (wb := wr) (by simp [*]) r1; clear r1)
            | (go_at_call 35; (with_reducible refine (HS2.out _ (by simp [*])).mono ?_); rintro e w2 ⟨rfl, r1⟩; have HB9 := bel_trans (wb := wr) (by simp [*]) r1; clear r1)
            | fail)
        rename_i hHeld
        have HB2 := Aside0.mk (bel_trans HB.out HB9)
        clear hHeld HB9 HBr g0 g1 e0 e1
        cases B2 with
        | false =>
          have HE' : Aside0 ((a, b) ∉ bothP (P.take (i + 1))) := ⟨by
            rw [take_snocP Hin.out.2]; intro h
            rcases List.mem_append.1 h with h | h
            · exact HE.out h
            · rw [List.mem_singleton, Prod.mk.injEq] at h
              exact of_decide_eq_false HBB.out.2 h.2.symm⟩
          go_wp2_with fail
          go_roundw
          case rel => exact ⟨i + 1, by go_num, Hin.out.1, HE', HB2⟩
          case measure => have := Hin.out.1; simp [intOf]; omega
        | true =>
          have hr : r = true := by
            rw [← Hr.out]
            refine decide_eq_true ?_
            have h : (a, b) ∈ bothP (P.take (i + 1)) := by
              rw [take_snocP Hin.out.2, of_decide_eq_true HBB.out.1, of_decide_eq_true HBB.out.2]; simp
            unfold bothP at h ⊢
            rw [List.map_take] at h
            exact List.mem_of_mem_take h
          have HBz := Aside0.mk (bel_trans HBW.out HB2.out)
          subst hr
          go_wp2_with fail
          go_ret
          exact ⟨rfl, by have h := HBz.out; first | exact h | (rw [hg] at h; exact h)⟩
    · have hnb : decide ((i : Int) < (n : Int)) = false := decide_eq_false (by omega)
      have hnc : decide (i < n) = false := decide_eq_false hin
      obtain rfl : i = n := by omega
      have hr : r = false := by
        rw [← Hr.out]
        have := HE.out
        rw [List.take_of_length_le (by rw [Hn.out.1]; exact Nat.le_refl _)] at this
        exact decide_eq_false this
      have HBz := Aside0.mk (bel_trans HBW.out HB.out)
      subst hr
      clear hin hi
      go_wp2_with fail
      go_ret
      exact ⟨rfl, by have h := HBz.out; first | exact h | (rw [hg] at h; exact h)⟩

end Go.Proofs.YtkpadjhdneiniaaGreatDoor.Am
