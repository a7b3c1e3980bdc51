/- Na, Nb -/
import Derived.Test.YtkpadjhdneiniaaGreatDoorEk
/- Na: Pairs of the document: rows of three lists; winnowerref24.met. -/
section
namespace Go.Proofs.YtkpadjhdneiniaaGreatDoor.Am
set_option linter.unusedVariables false
open Go.RowKit Go.Proofs.YtkpadjhdneiniaaGreatDoorW.PrintWords Go.Proofs.YtkpadjhdneiniaaGreatDoorW.PrintLast Go.Proofs.YtkpadjhdneiniaaGreatDoorW.PrintMore Go.Maps
open Go.Proofs.YtkpadjhdneiniaaGreatDoor.Base Go.Proofs.YtkpadjhdneiniaaGreatDoor.Map Go.Proofs.YtkpadjhdneiniaaGreatDoor.Sl Go.Proofs.YtkpadjhdneiniaaGreatDoor.Ow Go.Proofs.YtkpadjhdneiniaaGreatDoor.Se Go.Proofs.YtkpadjhdneiniaaGreatDoor.Gr Go.Proofs.YtkpadjhdneiniaaGreatDoor.Rf Go.Proofs.YtkpadjhdneiniaaGreatDoor.Tx Go.Proofs.YtkpadjhdneiniaaGreatDoor.Au



open Go.Proofs.YtkpadjhdneiniaaGreatDoor.Eb
/-! the document's pairs: rows of three lists -/
abbrev Tp := SlH × SlH × SlH
abbrev noT : Tp := (noH, noH, noH)
def tripT (e : Tp) : List Value := [encH e.1, encH e.2.1, encH e.2.2]
def kT : Kd Tp where
  sz := 3
  E := []
  K := fun _ e cs => cs = tripT e
  M := fun _ _ _ e cs => cs = tripT e
  K_len := fun h => by rw [h]; rfl
  K_one := fun h u hu => by rw [h] at hu; simp only [tripT, List.mem_cons, List.not_mem_nil, or_false] at hu; rcases hu with rfl | rfl | rfl <;> rfl
  K_below := fun _ h => h
  K_of_M := fun h => h
  M_mono := fun _ h => h
  M_bound := fun h => h
  M_move := fun _ h => h
  M_lower := fun _ h => h
theorem info110 : (Tryz.prog.info? 110).map (fun i => (i.zero, i.size, i.bytes)) = some (some (.agg #[.slice none 0 0, .slice none 0 0, .slice none 0 0]), 3, 72) := by kernel_rfl
theorem C_atT {w : World} {A : Option Addr} {l : List Tp} (h : kT.C w A l.length l) (i : Nat) (hi : i < l.length) :
    ∃ ad, A = some ad ∧ w.cell? (ad.add (i * 3)) = some (encH (l.getD i noT).1) ∧ w.cell? ⟨(ad.add (i * 3)).block, (ad.add (i * 3)).off + 1, none⟩ = some (encH (l.getD i noT).2.1) ∧ w.cell? ⟨(ad.add (i * 3)).block, (ad.add (i * 3)).off + 2, none⟩ = some (encH (l.getD i noT).2.2) := by
  obtain ⟨ad, c, hA, _, hk, hc⟩ := Kd.C_get h noT (i : Int) (by omega) (by omega)
  rw [Int.toNat_natCast] at hk hc
  have hk' : c = tripT (l.getD i noT) := hk
  subst hk'
  have e : ∀ j, j ≠ 0 → ad.add (i * 3 + j) = ⟨(ad.add (i * 3)).block, (ad.add (i * 3)).off + j, none⟩ := fun j hj => by
    unfold Addr.add
    rw [if_neg (by omega)]
    split
    · simp
    · simp; omega
  refine ⟨ad, hA, hc 0 _ rfl, ?_, ?_⟩
  · rw [← e 1 (by omega)]; exact hc 1 _ rfl
  · rw [← e 2 (by omega)]; exact hc 2 _ rfl
/-- v reads as pairs with their words -/
structure RdQ (w : World) (v : Value) (P : List Pr) : Prop where
  mk :: (out : ∃ A c, v = .slice A P.length c ∧ P.length ≤ c ∧ ∀ j, j < P.length → ∃ ad x y z, A = some ad ∧ w.cell? (ad.add (j * 3)) = some (encH x) ∧ w.cell? ⟨(ad.add (j * 3)).block, (ad.add (j * 3)).off + 1, none⟩ = some (encH y) ∧ w.cell? ⟨(ad.add (j * 3)).block, (ad.add (j * 3)).off + 2, none⟩ = some (encH z) ∧
    RdV w (encH x) (P.getD j noP).1 ∧ RdV w (encH y) (P.getD j noP).2.1 ∧ RdV w (encH z) (P.getD j noP).2.2)
theorem RdQ.below {w w1 : World} {v : Value} {P : List Pr} (h : RdQ w v P) (hb : Below w.heap.size w w1) : RdQ w1 v P := by
  obtain ⟨A, c, h1, h2, h3⟩ := h
  refine ⟨A, c, h1, h2, fun j hj => ?_⟩
  obtain ⟨ad, x, y, z, e1, e2, e3, e4, e5, e6, e7⟩ := h3 j hj
  exact ⟨ad, x, y, z, e1, pw_cell_below hb e2, pw_cell_below hb e3, pw_cell_below hb e4, e5.below hb, e6.below hb, e7.below hb⟩
theorem RdQ.at_ {w : World} {A : Option Addr} {n c : Nat} {P : List Pr} (h : RdQ w (.slice A n c) P) {j : Nat} (hj : j < P.length) : ∃ ad xA xn xc yA yn yc zA zn zc, A = some ad ∧ w.cell? (ad.add (j * 3)) = some (.slice xA xn xc) ∧ w.cell? ⟨(ad.add (j * 3)).block, (ad.add (j * 3)).off + 1, none⟩ = some (.slice yA yn yc) ∧ w.cell? ⟨(ad.add (j * 3)).block, (ad.add (j * 3)).off + 2, none⟩ = some (.slice zA zn zc) ∧
    RdV w (.slice xA xn xc) (P.getD j noP).1 ∧ RdV w (.slice yA yn yc) (P.getD j noP).2.1 ∧ RdV w (.slice zA zn zc) (P.getD j noP).2.2 := by
  obtain ⟨A', c', h1, h2, h3⟩ := h
  cases h1
  obtain ⟨ad, ⟨xA, xn, xc⟩, ⟨yA, yn, yc⟩, ⟨zA, zn, zc⟩, e1, e2, e3, e4, e5, e6, e7⟩ := h3 j hj
  exact ⟨ad, xA, xn, xc, yA, yn, yc, zA, zn, zc, e1, e2, e3, e4, e5, e6, e7⟩
theorem RdQ.len {w : World} {v : Value} {P : List Pr} (h : RdQ w v P) : ∃ A c, v = .slice A P.length c := by
  obtain ⟨A, c, h1, h2, h3⟩ := h
  exact ⟨A, c, h1⟩
/-- v is made of F, and reads so whatever changes of F -/
structure OwQ (w : World) (F : Nat → Prop) (v : Value) (P : List Pr) : Prop where
  mk :: (out : ∃ hs : List Tp, Kd.R kT 110 w 0 F v hs ∧ hs.length = P.length ∧ ∀ j, j < P.length → Stay F w (encH (hs.getD j noT).1) (P.getD j noP).1 ∧ Stay F w (encH (hs.getD j noT).2.1) (P.getD j noP).2.1 ∧ Stay F w (encH (hs.getD j noT).2.2) (P.getD j noP).2.2)
theorem OwQ.toQ {w : World} {F : Nat → Prop} {v : Value} {P : List Pr} (h : OwQ w F v P) : RdQ w v P := by
  obtain ⟨hs, h2, h3, h4⟩ := h
  obtain ⟨A, c, rfl, hc, hr⟩ := Kd.R_reads h2
  refine ⟨A, c, by rw [h3], by omega, fun j hj => ?_⟩
  obtain ⟨ad, hA, e1, e2, e3⟩ := C_atT hr j (by omega)
  exact ⟨ad, _, _, _, hA, e1, e2, e3, (h4 j hj).1.rd, (h4 j hj).2.1.rd, (h4 j hj).2.2.rd⟩
theorem OwQ.below {w w1 : World} {F : Nat → Prop} {v : Value} {P : List Pr} (h : OwQ w F v P) (hb : Below w.heap.size w w1) : OwQ w1 F v P := by
  obtain ⟨hs, h2, h3, h4⟩ := h
  exact ⟨hs, Kd.R_below h2 hb, h3, fun j hj => ⟨(h4 j hj).1.below hb, (h4 j hj).2.1.below hb, (h4 j hj).2.2.below hb⟩⟩
theorem OwQ.at_ {w : World} {F : Nat → Prop} {A : Option Addr} {n c : Nat} {P : List Pr} (h : OwQ w F (.slice A n c) P) {j : Nat} (hj : j < P.length) : ∃ ad xA xn xc yA yn yc zA zn zc, A = some ad ∧ w.cell? (ad.add (j * 3)) = some (.slice xA xn xc) ∧ w.cell? ⟨(ad.add (j * 3)).block, (ad.add (j * 3)).off + 1, none⟩ = some (.slice yA yn yc) ∧ w.cell? ⟨(ad.add (j * 3)).block, (ad.add (j * 3)).off + 2, none⟩ = some (.slice zA zn zc) ∧
    Stay F w (.slice xA xn xc) (P.getD j noP).1 ∧ Stay F w (.slice yA yn yc) (P.getD j noP).2.1 ∧ Stay F w (.slice zA zn zc) (P.getD j noP).2.2 := by
  obtain ⟨hs, h2, h3, h4⟩ := h
  obtain ⟨A', c', e, hc, hr⟩ := Kd.R_reads h2
  injection e with ea eb ec
  subst ea
  obtain ⟨ad, hA, e1, e2, e3⟩ := C_atT hr j (by omega)
  exact ⟨ad, _, _, _, _, _, _, _, _, _, hA, e1, e2, e3, (h4 j hj).1, (h4 j hj).2.1, (h4 j hj).2.2⟩
/-- one more -/
theorem OwQ.snoc {w w2 : World} {F : Nat → Prop} {v2 : Value} {P : List Pr} {hs : List Tp} {x : Tp} {p : Pr} (h3 : hs.length = P.length)
    (h4 : ∀ j, j < P.length → Stay F w (encH (hs.getD j noT).1) (P.getD j noP).1 ∧ Stay F w (encH (hs.getD j noT).2.1) (P.getD j noP).2.1 ∧ Stay F w (encH (hs.getD j noT).2.2) (P.getD j noP).2.2)
    (hu : Stay F w (encH x.1) p.1 ∧ Stay F w (encH x.2.1) p.2.1 ∧ Stay F w (encH x.2.2) p.2.2)
    (hR : Kd.R kT 110 w2 0 (ext F w w2) v2 (hs ++ [x])) (hC : Chg F w w2) : OwQ w2 (ext F w w2) v2 (P ++ [p]) := by
  have hF : ∀ k, ext F w w2 k → F k ∨ w.heap.size ≤ k := fun k hk => hk.elim .inl (fun h => .inr h.1)
  refine ⟨hs ++ [x], hR, by simp [h3], fun j hj => ?_⟩
  rw [List.length_append, List.length_singleton] at hj
  by_cases e : j < P.length
  · rw [getD_old hs x noT (by omega), getD_old P p noP e]
    exact ⟨(h4 j e).1.next hC hF, (h4 j e).2.1.next hC hF, (h4 j e).2.2.next hC hF⟩
  · obtain rfl : j = P.length := by omega
    have e1 : (hs ++ [x]).getD P.length noT = x := by rw [← h3]; exact getD_new hs x noT
    rw [e1, getD_new P p noP]
    exact ⟨hu.1.next hC hF, hu.2.1.next hC hF, hu.2.2.next hC hF⟩
theorem tripT_one {w : World} {F : Nat → Prop} {g : Nat} {x : Tp} (hF : F g) (hg : w.heap[g]? = some (.cells #[encH x.1, encH x.2.1, encH x.2.2] 110 (0, 0))) : Kd.R kT 110 w 0 F (.slice (some ⟨g, 0, none⟩) 1 1) [x] :=
  ⟨fun k hk => by cases hk; exact hF, tripT x, ⟨rfl, .inr ⟨g, 1, #[encH x.1, encH x.2.1, encH x.2.2], rfl, Nat.zero_le _, hg, Nat.le_refl _, by unfold maxLen; omega, rfl, rfl⟩⟩, ⟨rfl, fun j p hj => by
    cases j with
    | zero => have e : p = x := by simpa using hj.symm
              subst e; rfl
    | succ j => simp at hj⟩⟩
/-- one, in a block of its own -/
theorem OwQ.one {w : World} {F : Nat → Prop} {g : Nat} {x : Tp} {p : Pr} (hF : F g) (hg : w.heap[g]? = some (.cells #[encH x.1, encH x.2.1, encH x.2.2] 110 (0, 0))) (hu : Stay F w (encH x.1) p.1 ∧ Stay F w (encH x.2.1) p.2.1 ∧ Stay F w (encH x.2.2) p.2.2) : OwQ w F (.slice (some ⟨g, 0, none⟩) 1 1) [p] :=
  ⟨[x], tripT_one hF hg, rfl, fun j hj => by
    obtain rfl : j = 0 := by simpa using hj
    exact hu⟩
/-! how many pairs there may be -/
def bothP (P : List Pr) : List (List Int × List Int) := P.map fun e => (e.1, e.2.1)
structure PI (n : Nat) (P : List Pr) : Prop where
  nodup : (bothP P).Nodup
  sm : ∀ e ∈ P, Sm n e.1 ∧ Sm n e.2.1
theorem allP_len (n : Nat) (L : List (List Int)) : (L.flatMap fun a => (allSm n).map fun b => (a, b)).length = L.length * 2 ^ n := by
  induction L with
  | nil => simp
  | cons a L ih => rw [List.flatMap_cons, List.length_append, ih, List.length_map, allSm_len, List.length_cons, Nat.add_mul]; omega
theorem PI.len {n : Nat} {P : List Pr} (h : PI n P) : P.length ≤ 2 ^ n * 2 ^ n := by
  have h1 := nodup_len (bothP P) ((allSm n).flatMap fun a => (allSm n).map fun b => (a, b)) h.nodup (fun x hx => by
    unfold bothP at hx
    obtain ⟨e, he, rfl⟩ := List.mem_map.1 hx
    exact List.mem_flatMap.2 ⟨e.1, mem_allSm (h.sm e he).1, List.mem_map.2 ⟨e.2.1, mem_allSm (h.sm e he).2, rfl⟩⟩)
  rw [allP_len, allSm_len] at h1
  unfold bothP at h1
  rw [List.length_map] at h1; exact h1
theorem PI.len8 {n : Nat} {P : List Pr} (h : PI n P) (hn : n ≤ 8) : P.length ≤ 65536 := by
  have h1 := h.len
  have h2 : 2 ^ n ≤ 2 ^ 8 := Nat.pow_le_pow_right (by decide) hn
  have h3 : 2 ^ n * 2 ^ n ≤ 2 ^ 8 * 2 ^ 8 := Nat.mul_le_mul h2 h2
  omega
theorem PI.start {n : Nat} {a b : List Int} (ha : Sm n a) (hb : Sm n b) : PI n [(a, b, [])] := ⟨by simp [bothP], fun e he => by rw [List.mem_singleton] at he; subst he; exact ⟨ha, hb⟩⟩
theorem PI.snoc {n : Nat} {P : List Pr} (h : PI n P) {a b wd : List Int} (ha : Sm n a) (hb : Sm n b) (hn : (a, b) ∉ bothP P) : PI n (P ++ [(a, b, wd)]) :=
  ⟨by
    unfold bothP
    rw [List.map_append, List.map_singleton, List.nodup_append]
    exact ⟨h.nodup, by simp, fun x hx y hy => by rw [List.mem_singleton] at hy; subst hy; exact fun e => hn (e ▸ hx)⟩,
   fun e he => (List.mem_append.1 he).elim (h.sm e) (fun he => by rw [List.mem_singleton] at he; subst he; exact ⟨ha, hb⟩)⟩
/-- a pair's word is no longer than its number -/
theorem Bfs.wlen {T : List ByteArray} {E : List GE} {s s' : List Int} {P : List Pr} {i : Nat} {dn : List Int} (h : Bfs T E s s' P i dn) : ∀ m k, k ≤ m → k < P.length → (P.getD k noP).2.2.length ≤ k
  | m, k, hm, hk => by
    rcases h.top k hk with e | ⟨p, g, h1, h2, h3, h4⟩
    · rw [e]; simp
    · have hlt : p < k := by
        rcases Nat.lt_or_ge p k with hl | hl
        · exact hl
        · exfalso
          have hw : (P.getD k noP).2.2.length = (P.getD p noP).2.2.length + 1 := by rw [h3]; simp
          rcases Nat.lt_or_eq_of_le hl with hl | rfl
          · rcases h.rise k p hl h2 with q | ⟨q, -⟩ <;> omega
          · omega
      cases m with
      | zero => omega
      | succ m =>
        have := h.wlen m p (by omega) h2
        rw [h3, List.length_append, List.length_singleton]; omega
theorem take_snocP {P : List Pr} {i : Nat} (hi : i < P.length) : bothP (P.take (i + 1)) = bothP (P.take i) ++ [((P.getD i noP).1, (P.getD i noP).2.1)] := by
  rw [List.take_succ_eq_append_getElem hi, bothP, List.map_append]; simp [bothP, List.getElem?_eq_getElem hi]
set_option maxHeartbeats 8000000 in
set_option maxRecDepth 100000 in
/-- winnowerref24.met -/
theorem met_any (v : Value) (P : List Pr) (xA yA zA : Option Addr) (xn xc yn yc zn zc : Nat) (a b : List Int) (w : World) (hv : RdQ w v P) (hx : RdV w (.slice xA xn xc) a) (hy : RdV w (.slice yA yn yc) b) (hl : P.length ≤ 1000000) :
    Calls Tryz.prog 75 #[v, .agg #[.slice xA xn xc, .slice yA yn yc, .slice zA zn zc]] w fun e w' => e = .returned (.bool (decide ((a, b) ∈ bothP P))) ∧ Below w.heap.size w w' := by
  obtain ⟨A, c, rfl⟩ := hv.len
  obtain ⟨W, hW⟩ : ∃ W, w.alloc (.cells #[.slice xA xn xc, .slice yA yn yc, .slice zA zn zc] 110) = W := ⟨_, rfl⟩
  have HBW := Aside0.mk (show Below w.heap.size w W by rw [← hW]; exact below_alloc (Below.refl _ _) _)
  have Hb := Aside0.mk (show W.heap[w.heap.size]? = some (.cells #[.slice xA xn xc, .slice yA yn yc, .slice zA zn zc] 110 (0, 0)) by rw [← hW]; exact heap_alloc_new _ _)
  obtain ⟨g, hg⟩ : ∃ g, w.heap.size = g := ⟨_, rfl⟩
  rw [hg] at Hb
  have HV := Aside0.mk (hv.below HBW.out)
  have HU := Aside0.mk (And.intro (hx.below HBW.out) (hy.below HBW.out))
  obtain ⟨r, hr⟩ : ∃ r, decide ((a, b) ∈ bothP P) = r := ⟨_, rfl⟩
  rw [hr]
  have Hr := Aside0.mk hr
  obtain ⟨n, hn⟩ : ∃ n, P.length = n := ⟨_, rfl⟩
  have Hn := Aside0.mk (And.intro hn hl)
  rw [hn] at HV ⊢
  clear hv hx hy hr hl hn
  go_enter Tryz.func75, Tryz.ntmps75
  go_wp2_with fail
  try simp only [hg, hW]
  clear hW
  go_loopw [5] (fun I wr => ∃ i : Nat, I = .int .i64 (i : Int) ∧ i ≤ n ∧ Aside0 ((a, b) ∉ bothP (P.take i)) ∧ Aside0 (Below W.heap.size W wr)) (fun I _ => n - (intOf I).toNat)
  case atStart => exact ⟨0, rfl, Nat.zero_le _, ⟨by simp [bothP]⟩, ⟨Below.refl _ _⟩⟩
  case round =>
    obtain ⟨i, rfl, hi, HE, HB⟩ := hrel
    by_cases hin : i < n
    · have hnb : decide ((i : Int) < (n : Int)) = true := decide_eq_true (by omega)
      have hnc : decide (i < n) = true := decide_eq_true hin
      have hil : i < P.length := by rw [Hn.out.1]; exact hin
      obtain ⟨ad, pA, pn, pc, qA, qn, qc, uA, un, uc, rfl, e0, e1, e2, e3, e4, -⟩ := (HV.out.below HB.out).at_ hil
      have HS1 := Aside0.mk (fun (W' : World) (hb : Below wr.heap.size wr W') => same_any (.slice pA pn pc) (.slice xA xn xc) (P.getD i noP).1 a W' (e3.below hb) (HU.out.1.below (bel_trans HB.out hb)))
      have HS2 := Aside0.mk (fun (W' : World) (hb : Below wr.heap.size wr W') => same_any (.slice qA qn qc) (.slice yA yn yc) (P.getD i noP).2.1 b W' (e4.below hb) (HU.out.2.below (bel_trans HB.out hb)))
      have i0 : 0 ≤ (i : Int) := by omega
      have i1 : (i : Int) < (n : Int) := by omega
      have i3 : (i : Int) < 1000000 := by have := Hn.out; omega
      have Hin := Aside0.mk (And.intro hin hil)
      have g0 : wr.cell? ⟨g, 0, none⟩ = some (.slice xA xn xc) := blk_cellD (Ow.blk_below Hb.out HB.out) 0 _ rfl
      have g1 : wr.cell? ⟨g, 1, none⟩ = some (.slice yA yn yc) := blk_cellD (Ow.blk_below Hb.out HB.out) 1 _ rfl
      clear hin hi hil e3 e4
      replace i0 := eq_true i0
      replace i1 := eq_true i1
      have HBr := Below.refl wr.heap.size wr
      obtain ⟨B1, hB1⟩ : ∃ B, decide ((P.getD i noP).1 = a) = B := ⟨_, rfl⟩
      obtain ⟨B2, hB2⟩ : ∃ B, decide ((P.getD i noP).2.1 = b) = B := ⟨_, rfl⟩
      rw [hB1] at HS1
      rw [hB2] at HS2
      have HBB := Aside0.mk (And.intro hB1 hB2)
      clear hB1 hB2
      cases B1 with
      | false =>
        have HE' : Aside0 ((a, b) ∉ bothP (P.take (i + 1))) := ⟨by
          rw [take_snocP Hin.out.2]; intro h
          rcases List.mem_append.1 h with h | h
          · exact HE.out h
          · rw [List.mem_singleton, Prod.mk.injEq] at h
            exact of_decide_eq_false HBB.out.1 h.1.symm⟩
        go_wp2_with fail
        refine wp_region_held_drew (S := (fun W' => W'.cell? ⟨g, 0, none⟩ = some (.slice xA xn xc) ∧ W'.cell? (ad.add (i * 3)) = some (.slice pA pn pc) ∧ Below wr.heap.size wr W')) (by kernel_rfl) ?_ (fun hHeld => ?_)
        · exact ⟨bel_cell (below_drew HBr) g0, pw_cell_below (below_drew HBr) e0, below_drew HBr⟩
        refine wpAnyH_take (i := 0) (oi := _) (v := ?_) (List.getElem?_toArray.trans rfl) (by kernel_rfl) (by kernel_rfl) (by kernel_rfl) (fun _ _ _ h => h) (Or.inl ⟨by rfl, ?_⟩) (by assumption) ?_
        rotate_left
        · intro w hSw; (try dsimp only at hSw); go_simp <;> with_reducible rfl
        try simp only [Act.put, List.setIfInBounds_toArray, List.set_cons_zero, List.set_cons_succ]
        refine wpAnyH_take (i := 1) (oi := _) (v := ?_) (List.getElem?_toArray.trans rfl) (by kernel_rfl) (by kernel_rfl) (by kernel_rfl) (fun _ _ _ h => h) (Or.inl ⟨by rfl, ?_⟩) (by assumption) ?_
        rotate_left
        · intro w hSw; (try dsimp only at hSw); go_simp <;> with_reducible rfl
        try simp only [Act.put, List.setIfInBounds_toArray, List.set_cons_zero, List.set_cons_succ]
        refine wpAnyH_take (i := 2) (oi := _) (v := ?_) (List.getElem?_toArray.trans rfl) (by kernel_rfl) (by kernel_rfl) (by kernel_rfl) (fun _ _ _ h => h) (Or.inl ⟨by rfl, ?_⟩) (by assumption) ?_
        rotate_left
        · intro w hSw; (try dsimp only at hSw); go_simp <;> with_reducible rfl
        try simp only [Act.put, List.setIfInBounds_toArray, List.set_cons_zero, List.set_cons_succ]
        refine wpAnyH_take (i := 3) (oi := _) (v := ?_) (List.getElem?_toArray.trans rfl) (by kernel_rfl) (by kernel_rfl) (by kernel_rfl) (fun _ _ _ h => h) (Or.inl ⟨by rfl, ?_⟩) (by assumption) ?_
        rotate_left
        · intro w hSw; (try dsimp only at hSw); go_simp <;> with_reducible rfl
        try simp only [Act.put, List.setIfInBounds_toArray, List.set_cons_zero, List.set_cons_succ]
        refine wpAnyH_take (i := 4) (oi := _) (v := ?_) (List.getElem?_toArray.trans rfl) (by kernel_rfl) (by kernel_rfl) (by kernel_rfl) (fun _ _ _ h => h) (Or.inl ⟨by rfl, ?_⟩) (by assumption) ?_
        rotate_left
        · intro w hSw; (try dsimp only at hSw); go_simp <;> with_reducible rfl
        try simp only [Act.put, List.setIfInBounds_toArray, List.set_cons_zero, List.set_cons_succ]
        refine wpAnyH_take (i := 5) (oi := _) (v := ?_) (List.getElem?_toArray.trans rfl) (by kernel_rfl) (by kernel_rfl) (by kernel_rfl) (fun _ _ _ h => h) (Or.inl ⟨by rfl, ?_⟩) (by assumption) ?_
        rotate_left
        · intro w hSw; (try dsimp only at hSw); go_simp <;> with_reducible rfl
        try simp only [Act.put, List.setIfInBounds_toArray, List.set_cons_zero, List.set_cons_succ]
        refine wpAnyH_take (i := 6) (oi := _) (v := ?_) (List.getElem?_toArray.trans rfl) (by kernel_rfl) (by kernel_rfl) (by kernel_rfl) (fun _ _ _ h => h) (Or.inl ⟨by rfl, ?_⟩) (by assumption) ?_
        rotate_left
        · intro w hSw; (try dsimp only at hSw); go_simp <;> with_reducible rfl
        try simp only [Act.put, List.setIfInBounds_toArray, List.set_cons_zero, List.set_cons_succ]
        refine wpAnyH_ready (rs := [7]) (by kernel_rfl) (by simp) ?_
        refine AllReadyH.cons (o := _) (List.getElem?_toArray.trans rfl) (fun K hK => ?_) AllReadyH.nil
        go_simp
        (go_at_call 35; (with_reducible refine (HS1.out _ (below_drew HBr)).mono ?_); rintro e w2 ⟨rfl, r1⟩; have HB9 := bel_trans (wb := wr) (below_drew HBr) r1; clear r1)
        refine hK.out _ _ ?_ (fun hHeld => ?_)
        · exact ⟨bel_cell HB9 g0, pw_cell_below HB9 e0, HB9⟩
        clear hK K
        try simp only [Act.put, List.setIfInBounds_toArray, List.set_cons_zero, List.set_cons_succ]
        refine wpAnyH_take (i := 8) (oi := _) (v := ?_) (List.getElem?_toArray.trans rfl) (by kernel_rfl) (by kernel_rfl) (by kernel_rfl) (fun _ _ _ h => h) (Or.inl ⟨by rfl, ?_⟩) (by assumption) ?_
        rotate_left
        · intro w hSw; (try dsimp only at hSw); go_simp <;> with_reducible rfl
        try simp only [Act.put, List.setIfInBounds_toArray, List.set_cons_zero, List.set_cons_succ]
        refine wpAnyH_take (i := 9) (oi := _) (v := undef) (List.getElem?_toArray.trans rfl) (by kernel_rfl) (by kernel_rfl) (by kernel_rfl) (fun _ _ _ h => h) (Or.inr ⟨by rfl, rfl⟩) (by assumption) ?_
        try simp only [Act.put, List.setIfInBounds_toArray, List.set_cons_zero, List.set_cons_succ]
        refine wpAnyH_take (i := 10) (oi := _) (v := undef) (List.getElem?_toArray.trans rfl) (by kernel_rfl) (by kernel_rfl) (by kernel_rfl) (fun _ _ _ h => h) (Or.inr ⟨by rfl, rfl⟩) (by assumption) ?_
        try simp only [Act.put, List.setIfInBounds_toArray, List.set_cons_zero, List.set_cons_succ]
        refine wpAnyH_take (i := 11) (oi := _) (v := undef) (List.getElem?_toArray.trans rfl) (by kernel_rfl) (by kernel_rfl) (by kernel_rfl) (fun _ _ _ h => h) (Or.inr ⟨by rfl, rfl⟩) (by assumption) ?_
        try simp only [Act.put, List.setIfInBounds_toArray, List.set_cons_zero, List.set_cons_succ]
        refine wpAnyH_take (i := 12) (oi := _) (v := undef) (List.getElem?_toArray.trans rfl) (by kernel_rfl) (by kernel_rfl) (by kernel_rfl) (fun _ _ _ h => h) (Or.inr ⟨by rfl, rfl⟩) (by assumption) ?_
        try simp only [Act.put, List.setIfInBounds_toArray, List.set_cons_zero, List.set_cons_succ]
        refine wpAnyH_take (i := 13) (oi := _) (v := undef) (List.getElem?_toArray.trans rfl) (by kernel_rfl) (by kernel_rfl) (by kernel_rfl) (fun _ _ _ h => h) (Or.inr ⟨by rfl, rfl⟩) (by assumption) ?_
        try simp only [Act.put, List.setIfInBounds_toArray, List.set_cons_zero, List.set_cons_succ]
        refine wpAnyH_take (i := 14) (oi := _) (v := undef) (List.getElem?_toArray.trans rfl) (by kernel_rfl) (by kernel_rfl) (by kernel_rfl) (fun _ _ _ h => h) (Or.inr ⟨by rfl, rfl⟩) (by assumption) ?_
        try simp only [Act.put, List.setIfInBounds_toArray, List.set_cons_zero, List.set_cons_succ]
        refine wpAnyH_take (i := 15) (oi := _) (v := undef) (List.getElem?_toArray.trans rfl) (by kernel_rfl) (by kernel_rfl) (by kernel_rfl) (fun _ _ _ h => h) (Or.inr ⟨by rfl, rfl⟩) (by assumption) ?_
        try simp only [Act.put, List.setIfInBounds_toArray, List.set_cons_zero, List.set_cons_succ]
        refine wpAnyH_take (i := 16) (oi := _) (v := undef) (List.getElem?_toArray.trans rfl) (by kernel_rfl) (by kernel_rfl) (by kernel_rfl) (fun _ _ _ h => h) (Or.inr ⟨by rfl, rfl⟩) (by assumption) ?_
        try simp only [Act.put, List.setIfInBounds_toArray, List.set_cons_zero, List.set_cons_succ]
        refine wpAnyH_take (i := 17) (oi := _) (v := ?_) (List.getElem?_toArray.trans rfl) (by kernel_rfl) (by kernel_rfl) (by kernel_rfl) (fun _ _ _ h => h) (Or.inl ⟨by rfl, ?_⟩) (by assumption) ?_
        rotate_left
        · intro w hSw; (try dsimp only at hSw); go_simp <;> with_reducible rfl
        try simp only [Act.put, List.setIfInBounds_toArray, List.set_cons_zero, List.set_cons_succ]
        refine wpAnyH_done (by kernel_rfl) ?_ _
        rename_i hHeld
        have HB2 := Aside0.mk (bel_trans HB.out HB9)
        clear hHeld HB9 HBr g0 g1 e0 e1
        go_wp2_with fail
        go_roundw
        case rel => exact ⟨i + 1, by go_num, Hin.out.1, HE', HB2⟩
        case measure => have := Hin.out.1; simp [intOf]; omega
      | true =>
        go_wp2_with fail
        go_region_held3 (fun W' => W'.cell? ⟨g, 0, none⟩ = some (.slice xA xn xc) ∧ W'.cell? ⟨g, 1, none⟩ = some (.slice yA yn yc) ∧ W'.cell? (ad.add (i * 3)) = some (.slice pA pn pc) ∧ W'.cell? ⟨(ad.add (i * 3)).block, (ad.add (i * 3)).off + 1, none⟩ = some (.slice qA qn qc) ∧ Below wr.heap.size wr W') (first | (refine ⟨pw_cell_below (w := wr) ?_ g0, pw_cell_below (w := wr) ?_ g1, pw_cell_below (w := wr) ?_ e0, pw_cell_below (w := wr) ?_ e1, ?_⟩ <;> simp [*]) | go_keep)
          (first
            | (go_at_call 35; (with_reducible refine (HS1.out _ (by simp [*])).mono ?_); rintro e w2 ⟨rfl, r1⟩; have HB9 := bel_trans (wb := wr) (by simp [*]) r1; clear r1)
            | (go_at_call 35; (with_reducible refine (HS2.out _ (by simp [*])).mono ?_); rintro e w2 ⟨rfl, r1⟩; have HB9 := bel_trans (wb := wr) (by simp [*]) r1; clear r1)
            | fail)
        rename_i hHeld
        have HB2 := Aside0.mk (bel_trans HB.out HB9)
        clear hHeld HB9 HBr g0 g1 e0 e1
        cases B2 with
        | false =>
          have HE' : Aside0 ((a, b) ∉ bothP (P.take (i + 1))) := ⟨by
            rw [take_snocP Hin.out.2]; intro h
            rcases List.mem_append.1 h with h | h
            · exact HE.out h
            · rw [List.mem_singleton, Prod.mk.injEq] at h
              exact of_decide_eq_false HBB.out.2 h.2.symm⟩
          go_wp2_with fail
          go_roundw
          case rel => exact ⟨i + 1, by go_num, Hin.out.1, HE', HB2⟩
          case measure => have := Hin.out.1; simp [intOf]; omega
        | true =>
          have hr : r = true := by
            rw [← Hr.out]
            refine decide_eq_true ?_
            have h : (a, b) ∈ bothP (P.take (i + 1)) := by
              rw [take_snocP Hin.out.2, of_decide_eq_true HBB.out.1, of_decide_eq_true HBB.out.2]; simp
            unfold bothP at h ⊢
            rw [List.map_take] at h
            exact List.mem_of_mem_take h
          have HBz := Aside0.mk (bel_trans HBW.out HB2.out)
          subst hr
          go_wp2_with fail
          go_ret
          exact ⟨rfl, by have h := HBz.out; first | exact h | (rw [hg] at h; exact h)⟩
    · have hnb : decide ((i : Int) < (n : Int)) = false := decide_eq_false (by omega)
      have hnc : decide (i < n) = false := decide_eq_false hin
      obtain rfl : i = n := by omega
      have hr : r = false := by
        rw [← Hr.out]
        have := HE.out
        rw [List.take_of_length_le (by rw [Hn.out.1]; exact Nat.le_refl _)] at this
        exact decide_eq_false this
      have HBz := Aside0.mk (bel_trans HBW.out HB.out)
      subst hr
      clear hin hi
      go_wp2_with fail
      go_ret
      exact ⟨rfl, by have h := HBz.out; first | exact h | (rw [hg] at h; exact h)⟩

end Go.Proofs.YtkpadjhdneiniaaGreatDoor.Am
end

/- Nb: winnowerref24.Apart. -/
section
namespace Go.Proofs.YtkpadjhdneiniaaGreatDoor.Am
set_option linter.unusedVariables false
open Go.RowKit Go.Proofs.YtkpadjhdneiniaaGreatDoorW.PrintWords Go.Proofs.YtkpadjhdneiniaaGreatDoorW.PrintLast Go.Proofs.YtkpadjhdneiniaaGreatDoorW.PrintMore Go.Maps
open Go.Proofs.YtkpadjhdneiniaaGreatDoor.Base Go.Proofs.YtkpadjhdneiniaaGreatDoor.Map Go.Proofs.YtkpadjhdneiniaaGreatDoor.Sl Go.Proofs.YtkpadjhdneiniaaGreatDoor.Ow Go.Proofs.YtkpadjhdneiniaaGreatDoor.Se Go.Proofs.YtkpadjhdneiniaaGreatDoor.Gr Go.Proofs.YtkpadjhdneiniaaGreatDoor.Rf Go.Proofs.YtkpadjhdneiniaaGreatDoor.Tx Go.Proofs.YtkpadjhdneiniaaGreatDoor.Au



open Go.Proofs.YtkpadjhdneiniaaGreatDoor.Eb
/-- what the document's Apart tells -/
def RaSaid (w : World) (T : List ByteArray) (E : List GE) (o x : Int) (e : Ending) (w' : World) : Prop := Below w.heap.size w w' ∧
  ((∃ u wd, e = .returned (.tuple #[u, .bool true]) ∧ RdV w' u wd ∧ Least (Df T E [o] [x]) wd) ∨
   (e = .returned (.tuple #[.slice none 0 0, .bool false]) ∧ ∀ v, ¬ Df T E [o] [x] v))
theorem _root_.Go.Proofs.YtkpadjhdneiniaaGreatDoor.Tx.Fr.fresh {base pq : Nat} {w : World} {v : Value} {l : List Int} (h : Fr base w v l) (hp : w.heap.size ≤ pq) : Stay (fun k => k < base ∨ k = pq) w v l := fun W hW => h.out W (hW.mono (fun k hk hF => hF.elim id (fun e => by omega)))
theorem rdV_sl {w : World} {v : Value} {l : List Int} (h : RdV w v l) : ∃ A n c, v = .slice A n c := by
  obtain ⟨A, c, h1, -, -⟩ := h
  exact ⟨A, _, c, h1⟩
theorem ledS_sm {n : Nat} {E : List GE} (hR : RightG n E) : ∀ (l s : List Int), Sm n s → Sm n (ledS E s l)
  | [], _, h => h
  | f :: t, s, h => ledS_sm hR t (nextG E f s) (sm_next hR f s)
theorem Bfs.small {T : List ByteArray} {E : List GE} {n : Nat} {a b : List Int} {P : List Pr} {i : Nat} {dn : List Int} (h : PI n P) {k : Nat} (hk : k < P.length) : Sm n (P.getD k noP).1 ∧ Sm n (P.getD k noP).2.1 := h.sm _ (getD_mem hk)
theorem next_out {E : List GE} {a s : List Int} {f : Int} (hs : ∀ y ∈ a, y ∈ s) (h : s = [] ∨ f ∉ fieldsG E s) : nextG E f a = [] := by
  by_cases ha : a = []
  · subst ha; exact Au.next_nil E f
  · refine Au.next_none (fun hf => ?_)
    obtain ⟨y, z, h1, h2⟩ := mem_fieldsG.1 hf
    have hy : y ∈ a := h2.resolve_left ha
    rcases h with h | h
    · rw [h] at hs; exact absurd (hs y hy) (by simp)
    · exact h (mem_fieldsG.2 ⟨y, z, h1, .inr (hs y hy)⟩)
theorem fields_none {E : List GE} {a b : List Int} {f : Int} (h : a ++ b = [] ∨ f ∉ fieldsG E (a ++ b)) : nextG E f a = nextG E f b := by
  rw [next_out (fun y hy => List.mem_append_left _ hy) h, next_out (fun y hy => List.mem_append_right _ hy) h]
/-- the document's Types, said so -/
theorem rtypesT_any (A A2 : Option Addr) (c n2 c2 : Nat) (T : List ByteArray) (u : Value) (os : List Int) (w : World) (hT : RdT w A T) (hu : RdV w u os) (hl : T.length ≤ 1000) (ho : os.length ≤ 1000) :
    Calls Tryz.prog 24 #[.agg #[.slice A T.length c, .slice A2 n2 c2], u] w fun e w' => ∃ v, e = .returned v ∧ RdS w' v (tyG T os) ∧ Below w.heap.size w w' :=
  (rtypes_any A A2 c n2 c2 T u os w hT hu ⟨by omega, by omega⟩).mono fun e w' ⟨v, S, h1, h2, h3, h4⟩ => ⟨v, h1, by rw [← tyG_eq h3]; exact h2, h4⟩
section
variable {ops : Array Oper} {rest : List Oper} {o : Oper} {a : Act} {Q : Exit → Act → World → Prop}
theorem appT {W : World} {G : Nat → Prop} (hgd : o.guard = none) (s x : Operand)
    (ho : o.op = .call { callee := .builtin .append, args := #[s, x], argTypes := #[111, 111] })
    (v : Value) (xs : List Tp) (y : Tp) (g : Nat) (hs : a.eval s = v) (hx : a.eval x = .slice (some ⟨g, 0, none⟩) 1 1)
    (HO : Kd.R kT 110 W 0 G v xs) (HR : W.heap[g]? = some (.cells #[encH y.1, encH y.2.1, encH y.2.2] 110 (0, 0))) (hl : (xs.length + 1) * 72 ≤ 140737488355328)
    (h : ∀ v1 w1, Kd.R kT 110 w1 0 (ext G W w1) v1 (xs ++ [y]) → W.grownBy w1 v.ownBlock → Chg G W w1 → wpList Tryz.prog ops Q rest (a.put o.dst v1) w1) :
    wpList Tryz.prog ops Q (o :: rest) a W := by
  obtain ⟨A, c, e, hc, hr⟩ := Kd.R_reads (tripT_one (x := y) (F := fun k => k = g) rfl HR)
  injection e with ea eb ec
  subst ea
  exact Kd.R_append_rows kT (Rr := fun y cs => cs = tripT y) (w0 := W) 0 hgd s x 111 110 (.agg #[.slice none 0 0, .slice none 0 0, .slice none 0 0]) 72 ho Tryz.underlying111 info110 rfl (by decide) (by decide) v xs [y] (some ⟨g, 0, none⟩) 1 1 (fun k => G k ∨ W.heap.size ≤ k) (fun _ => False) hs hx (Kd.R_mono HO (fun k hk => .inl hk)) hr (fun _ _ hk => hk) (fun _ h => h.elim) (fun _ hk => .inr hk) (Below.refl _ _) (Nat.zero_le _) hl
    (fun v1 w1 ho hb hg hat => h v1 w1 (Kd.R_mono (Kd.R_bound ho) (fun k hk => hk.1.elim .inl (fun h => .inr ⟨h, hk.2.2.1⟩))) hg (Chg.of_grown hg (fun k hk => HO.1 k hk)))
end
theorem bfs_more {T : List ByteArray} {E : List GE} {s s' : List Int} {P : List Pr} {i k : Nat} {fl pa pb wd : List Int} {f : Int} (h : Bfs T E s s' P i (fl.take k)) (hi : i < P.length ∧ P.getD i noP = (pa, pb, wd)) (ht : fl.take (k + 1) = fl.take k ++ [f]) (hf : ∀ y ∈ fl.take k, y < f) :
    Bfs T E s s' (P ++ [(nextG E f pa, nextG E f pb, wd ++ [f])]) i (fl.take (k + 1)) := by
  have := h.new hi.1 hf
  rw [hi.2] at this
  rw [ht]; exact this
theorem bfs_same {T : List ByteArray} {E : List GE} {s s' : List Int} {P : List Pr} {i k : Nat} {fl pa pb wd : List Int} {f : Int} (h : Bfs T E s s' P i (fl.take k)) (hi : i < P.length ∧ P.getD i noP = (pa, pb, wd)) (ht : fl.take (k + 1) = fl.take k ++ [f]) (hf : ∀ y ∈ fl.take k, y < f) (hm : (nextG E f pa, nextG E f pb) ∈ bothP P) :
    Bfs T E s s' P i (fl.take (k + 1)) := by
  rw [ht]
  refine h.old hi.1 hf (fun t hd => ?_)
  rw [hi.2] at hd
  obtain ⟨e, he, he2⟩ := List.mem_map.1 hm
  rw [Prod.mk.injEq] at he2
  refine ⟨P.idxOf e, List.idxOf_lt_length_of_mem he, ?_⟩
  have e3 : P.getD (P.idxOf e) noP = e := by
    rw [List.getD_eq_getElem?_getD, List.getElem?_eq_getElem (List.idxOf_lt_length_of_mem he)]; exact List.getElem_idxOf _
  rw [e3, he2.1, he2.2]; exact hd
theorem bfs_next {T : List ByteArray} {E : List GE} {s s' : List Int} {P : List Pr} {i k : Nat} {fl pa pb wd : List Int} (h : Bfs T E s s' P i (fl.take k)) (hi : i < P.length ∧ P.getD i noP = (pa, pb, wd)) (hfl : fieldsG E (pa ++ pb) = fl) (hk : fl.length ≤ k ∨ pa ++ pb = []) (hs : tyG T pa = tyG T pb) : Bfs T E s s' P (i + 1) [] := by
  refine h.next hi.1 ?_ (fun f hf => ?_)
  · rw [hi.2]; exact fun hd => hd hs
  · rw [hi.2]
    refine fields_none (hk.symm.imp id (fun hk => ?_))
    rw [hfl, List.take_of_length_le hk] at *
    exact hf
set_option maxHeartbeats 16000000 in
set_option maxRecDepth 100000 in
theorem rapart_any (A : Option Addr) (c : Nat) (T : List ByteArray) (A2 : Option Addr) (c2 : Nat) (E : List GE) (o x : Int) (w : World) (hT : RdT w A T) (hE : RdE w A2 E) (hL : LightG T.length E) (o0 : 0 ≤ o) (o1 : o < T.length) (x0 : 0 ≤ x) (x1 : x < T.length) :
    Calls Tryz.prog 40 #[.agg #[.slice A T.length c, .slice A2 E.length c2], .int .i64 o, .int .i64 x] w (RaSaid w T E o x) := by
  obtain ⟨W, hW⟩ : ∃ W, w.alloc (.cells #[.slice A T.length c, .slice A2 E.length c2] 25) = W := ⟨_, rfl⟩
  have HBW := Aside0.mk (show Below w.heap.size w W by rw [← hW]; exact below_alloc (Below.refl _ _) _)
  have Hb := Aside0.mk (show W.heap[w.heap.size]? = some (.cells #[.slice A T.length c, .slice A2 E.length c2] 25 (0, 0)) by rw [← hW]; exact heap_alloc_new _ _)
  have zW : W.heap.size = w.heap.size + 1 := by rw [← hW]; exact Array.size_push ..
  obtain ⟨g, hg⟩ : ∃ g, w.heap.size = g := ⟨_, rfl⟩
  rw [hg] at Hb
  obtain ⟨g1, hg1⟩ : ∃ g1, W.heap.size = g1 := ⟨_, rfl⟩
  obtain ⟨W1, hW1⟩ : ∃ W1, W.alloc (.cells #[.int .i64 o] 3) = W1 := ⟨_, rfl⟩
  have B1 : Below W.heap.size W W1 := by rw [← hW1]; exact below_alloc (Below.refl _ _) _
  have z1 : W1.heap.size = g1 + 1 := by rw [← hW1, ← hg1]; exact Array.size_push ..
  obtain ⟨W2, hW2⟩ : ∃ W2, W1.alloc (.cells #[.int .i64 x] 3) = W2 := ⟨_, rfl⟩
  have B2 : Below W1.heap.size W1 W2 := by rw [← hW2]; exact below_alloc (Below.refl _ _) _
  have z2 : W2.heap.size = g1 + 1 + 1 := by rw [← hW2, ← z1]; exact Array.size_push ..
  obtain ⟨W3, hW3⟩ : ∃ W3, W2.alloc (.cells #[.slice (some ⟨g1, 0, none⟩) 1 1, .slice (some ⟨g1 + 1, 0, none⟩) 1 1, .slice none 0 0] 110) = W3 := ⟨_, rfl⟩
  have B3 : Below W2.heap.size W2 W3 := by rw [← hW3]; exact below_alloc (Below.refl _ _) _
  have z3 : W3.heap.size = g1 + 1 + 1 + 1 := by rw [← hW3, ← z2]; exact Array.size_push ..
  have blk1 : W1.heap[g1]? = some (.cells #[.int .i64 o] 3 (0, 0)) := by rw [← hW1, ← hg1]; exact heap_alloc_new _ _
  have blk2 : W2.heap[g1 + 1]? = some (.cells #[.int .i64 x] 3 (0, 0)) := by rw [← hW2, ← z1]; exact heap_alloc_new _ _
  have blk3 : W3.heap[g1 + 1 + 1]? = some (.cells #[.slice (some ⟨g1, 0, none⟩) 1 1, .slice (some ⟨g1 + 1, 0, none⟩) 1 1, .slice none 0 0] 110 (0, 0)) := by rw [← hW3, ← z2]; exact heap_alloc_new _ _
  have HO3 := Aside0.mk (show OwQ W3 (fun k => k = g1 + 1 + 1) (.slice (some ⟨g1 + 1 + 1, 0, none⟩) 1 1) [([o], [x], [])] by
    refine OwQ.one (x := ((some ⟨g1, 0, none⟩, 1, 1), (some ⟨g1 + 1, 0, none⟩, 1, 1), (none, 0, 0))) rfl blk3 ⟨fun W' hC => ?_, fun W' hC => ?_, fun W' hC => RdV.nil _⟩
    · have h := hC.blk (Ow.blk_below (Ow.blk_below blk1 B2) B3) (fun e => by omega)
      exact rdV_lit (l := [o]) h rfl (by simp)
    · have h := hC.blk (Ow.blk_below blk2 B3) (fun e => by omega)
      exact rdV_lit (l := [x]) h rfl (by simp))
  have HF3 := Aside0.mk (fun (k : Nat) (hk : k = g1 + 1 + 1) => (show W.heap.size ≤ k ∧ k < W3.heap.size by omega))
  have HB3 := Aside0.mk (bel_trans B1 (bel_trans B2 B3))
  have HP3 := Aside0.mk (PI.start (n := T.length) (sm_one o0 o1) (sm_one x0 x1))
  have HI3 := Aside0.mk (Bfs.start T E [o] [x])
  have H := Aside0.mk (And.intro (hT.below HBW.out) (And.intro (hE.below HBW.out) hL))
  have Hgw := Aside0.mk Hb.out
  have Hbg := Aside0.mk (Ow.blk_below Hb.out HB3.out)
  obtain ⟨nT, hnT⟩ : ∃ nT, T.length = nT := ⟨_, rfl⟩
  obtain ⟨nE, hnE⟩ : ∃ nE, E.length = nE := ⟨_, rfl⟩
  have Hn := Aside0.mk (And.intro hnT hnE)
  rw [hnT] at hW Hb HP3 Hgw Hbg ⊢
  rw [hnE] at hW Hb Hgw Hbg ⊢
  clear hT hE hL o0 o1 x0 x1 zW B1 B2 B3 z3 blk1 blk2 blk3 hnT hnE
  go_enter Tryz.func40, Tryz.ntmps40
  go_wp2_with fail
  try simp only [hg, hW, hg1, hW1, z1, hW2, z2, hW3]
  clear hg hW hg1 hW1 z1 hW2 z2 hW3 Hb
  go_loopw [8, 9] (fun V I wr => ∃ (i : Nat) (G : Nat → Prop) (P : List Pr), I = .int .i64 (i : Int) ∧ Aside0 (i ≤ P.length) ∧ Aside0 (OwQ wr G V P) ∧ Aside0 (Bfs T E [o] [x] P i []) ∧ Aside0 (PI nT P) ∧ Aside0 (∀ k, G k → W.heap.size ≤ k ∧ k < wr.heap.size) ∧ Aside0 (Below W.heap.size W wr) ∧ Aside0 (wr.heap[g]? = some (.cells #[.slice A nT c, .slice A2 nE c2] 25 (0, 0)))) (fun _ I _ => 65536 - (intOf I).toNat)
  case atStart => exact ⟨0, _, _, rfl, ⟨Nat.zero_le _⟩, HO3, HI3, HP3, HF3, HB3, Hbg⟩
  case round =>
    clear HO3 HF3 HB3 Hbg HP3 HI3
    obtain ⟨i, G, P, rfl, Hi, HV, HI, HP, HF, HB, Hb⟩ := hrel
    obtain ⟨AV, cV, hV⟩ := HV.out.toQ.len
    subst hV
    have hl65 := HP.out.len8 (by rw [← Hn.out.1]; exact H.out.2.2.2.2)
    obtain ⟨ln, hln⟩ : ∃ ln, P.length = ln := ⟨_, rfl⟩
    have Hln := Aside0.mk (And.intro hln (show ln ≤ 65536 by omega))
    rw [hln] at HV Hi ⊢
    have i3 : (i : Int) ≤ 65536 := by have := Hi.out; omega
    clear hln hl65
    by_cases hin : i < ln
    · have hnb : decide ((i : Int) < (ln : Int)) = true := decide_eq_true (by omega)
      have hnc : decide (i < ln) = true := decide_eq_true hin
      have hil : i < P.length := by rw [Hln.out.1]; exact hin
      obtain ⟨ad, xA, xn, xc, yA, yn, yc, zA, zn, zc, had, e0, e1, e2, r1, r2, r3⟩ := HV.out.at_ hil
      subst had
      obtain ⟨⟨pa, pb, wd⟩, hp⟩ : ∃ e, P.getD i noP = e := ⟨_, rfl⟩
      rw [hp] at r1 r2 r3
      have HSt := Aside0.mk (And.intro r1 (And.intro r2 r3))
      have HRd := Aside0.mk (And.intro r1.rd (And.intro r2.rd r3.rd))
      have hsm := HP.out.sm _ (getD_mem (d := noP) hil)
      rw [hp] at hsm
      have hsm : Sm nT pa ∧ Sm nT pb := hsm
      have hwl := HI.out.wlen i i (Nat.le_refl _) hil
      rw [hp] at hwl
      have hwl : wd.length ≤ i := hwl
      have Hp := Aside0.mk (And.intro hp (And.intro hsm hwl))
      have i0 : 0 ≤ (i : Int) := by omega
      have i1 : (i : Int) < (ln : Int) := by omega
      have Hin := Aside0.mk (And.intro hin hil)
      clear r1 r2 r3 hp hsm hwl hin hil
      replace i0 := eq_true i0
      replace i1 := eq_true i1
      go_upto_region 6 with fail
      obtain ⟨pp, hpp⟩ : ∃ b, wr.heap.size = b := ⟨_, rfl⟩
      obtain ⟨Wp, hWp⟩ : ∃ z, wr.alloc (.cells #[.slice xA xn xc, .slice yA yn yc, .slice zA zn zc] 110) = z := ⟨_, rfl⟩
      have Hal := Aside0.mk (show Below wr.heap.size wr Wp by rw [← hWp]; exact below_alloc (Below.refl _ _) _)
      have Hpb := Aside0.mk (show Wp.heap[pp]? = some (.cells #[.slice xA xn xc, .slice yA yn yc, .slice zA zn zc] 110 (0, 0)) by rw [← hWp, ← hpp]; exact heap_alloc_new _ _)
      have Hpp := Aside0.mk (show wr.heap.size ≤ pp by omega)
      simp only [hpp, hWp]
      clear hpp hWp e0 e1 e2
      have HBp := Aside0.mk (bel_trans HB.out Hal.out)
      have g0 : Wp.cell? ⟨g, 0, none⟩ = some (.slice A nT c) := blk_cellD (Ow.blk_below Hb.out Hal.out) 0 _ rfl
      have g1' : Wp.cell? ⟨g, 1, none⟩ = some (.slice A2 nE c2) := blk_cellD (Ow.blk_below Hb.out Hal.out) 1 _ rfl
      have d0 : Wp.cell? ⟨pp, 0, none⟩ = some (.slice xA xn xc) := blk_cellD Hpb.out 0 _ rfl
      have d1 : Wp.cell? ⟨pp, 1, none⟩ = some (.slice yA yn yc) := blk_cellD Hpb.out 1 _ rfl
      have HTa := Aside0.mk (fun (W' : World) (hb : Below Wp.heap.size Wp W') => rtypesT_any A A2 c nE c2 T (.slice xA xn xc) pa W' (H.out.1.below (bel_trans HBp.out hb)) ((HRd.out.1.below Hal.out).below hb) (by have := H.out.2.2.2.2; omega) (by have := Hp.out.2.1.1.len; have := H.out.2.2.2.2; have := Hn.out.1; omega))
      have HTb := Aside0.mk (fun (W' : World) (hb : Below Wp.heap.size Wp W') => rtypesT_any A A2 c nE c2 T (.slice yA yn yc) pb W' (H.out.1.below (bel_trans HBp.out hb)) ((HRd.out.2.1.below Hal.out).below hb) (by have := H.out.2.2.2.2; omega) (by have := Hp.out.2.1.2.len; have := H.out.2.2.2.2; have := Hn.out.1; omega))
      rw [Hn.out.1] at HTa HTb
      obtain ⟨Ba, hBa⟩ : ∃ B, decide (tyG T pa = tyG T pb) = B := ⟨_, rfl⟩
      have HBa := Aside0.mk hBa
      have HTx := Aside0.mk (fun (W' : World) (u1 u2 : Value) (h1 : RdS W' u1 (tyG T pa)) (h2 : RdS W' u2 (tyG T pb)) => (show Calls Tryz.prog 22 #[u1, u2] W' (fun e w' => e = .returned (.bool Ba) ∧ Below W'.heap.size W' w') from by
        have h := texts_any u1 u2 _ _ W' h1 h2 (by have := (tyG_is T pa).len; have := Hp.out.2.1.1.len; have := H.out.2.2.2.2; have := Hn.out.1; omega)
        rewrite [hBa] at h; exact h))
      have HBr := Below.refl Wp.heap.size Wp
      clear hBa
      go_region_held3 (fun W' => W'.cell? ⟨g, 0, none⟩ = some (.slice A nT c) ∧ W'.cell? ⟨g, 1, none⟩ = some (.slice A2 nE c2) ∧ W'.cell? ⟨pp, 0, none⟩ = some (.slice xA xn xc) ∧ W'.cell? ⟨pp, 1, none⟩ = some (.slice yA yn yc) ∧ Below Wp.heap.size Wp W') (first | (exact ⟨bel_cell HB9 g0, bel_cell HB9 g1', bel_cell HB9 d0, bel_cell HB9 d1, HB9⟩) | (refine ⟨pw_cell_below (w := Wp) ?_ g0, pw_cell_below (w := Wp) ?_ g1', pw_cell_below (w := Wp) ?_ d0, pw_cell_below (w := Wp) ?_ d1, ?_⟩ <;> simp [*]) | go_keep)
        (first
          | (go_at_call 24; (with_reducible refine (HTa.out _ (by simp [*])).mono ?_); rintro e w5a ⟨u1, rfl, r1, r3⟩; have HX1 := Aside0.mk r1; have HB9 := bel_trans (wb := Wp) (by simp [*]) r3; clear r1 r3)
          | (go_at_call 24; (with_reducible refine (HTb.out _ (by simp [*])).mono ?_); rintro e w5b ⟨u2, rfl, r1, r3⟩; have HX1 := Aside0.mk (HX1.out.below r3); have HX2 := Aside0.mk r1; have HB9 := bel_trans (wb := Wp) (by simp [*]) r3; clear r1 r3)
          | (go_at_call 22; (with_reducible refine (HTx.out _ _ _ HX1.out HX2.out).mono ?_); rintro e w6 ⟨rfl, r3⟩; have HB9 := bel_trans (wb := Wp) (by simp [*]) r3; clear r3)
          | fail)
      rename_i hHeld
      have HB6 := Aside0.mk HB9
      clear hHeld HB9 HBr HX1 HX2 HTa HTb HTx g0 g1' d0 d1
      cases Ba with
      | false =>
        have d2 : w6.cell? ⟨pp, 2, none⟩ = some (.slice zA zn zc) := blk_cellD (Ow.blk_below Hpb.out HB6.out) 2 _ rfl
        have hD : Df T E (P.getD i noP).1 (P.getD i noP).2.1 [] := by
          rw [Hp.out.1]; exact of_decide_eq_false HBa.out
        have hLs := HI.out.least Hin.out.2 hD
        rw [Hp.out.1] at hLs
        have HE := Aside0.mk (show RaSaid w T E o x (.returned (.tuple #[.slice zA zn zc, .bool true])) w6 from ⟨bel_trans HBW.out (bel_trans HBp.out HB6.out), .inl ⟨_, wd, rfl, (HRd.out.2.2.below Hal.out).below HB6.out, hLs⟩⟩)
        clear hD hLs
        go_wp2_with fail
        go_ret2
        exact HE.out
      | true =>
      go_upto_region 8 with fail
      have d0 : w6.cell? ⟨pp, 0, none⟩ = some (.slice xA xn xc) := blk_cellD (Ow.blk_below Hpb.out HB6.out) 0 _ rfl
      have d1 : w6.cell? ⟨pp, 1, none⟩ = some (.slice yA yn yc) := blk_cellD (Ow.blk_below Hpb.out HB6.out) 1 _ rfl
      have hE0 : OwI (w6.drew.alloc (.cells #[] 3)) w6.heap.size (.slice (some ⟨w6.heap.size, 0, none⟩) 0 0) [] := R_empty w6.drew
      have HE0 := Aside0.mk hE0
      have HPa := Aside0.mk (fun (W' : World) (hb : Below w6.heap.size w6 W') => (show RdV W' (.slice xA xn xc) pa from (HRd.out.1.below Hal.out).below (bel_trans HB6.out hb)))
      have HPb := Aside0.mk (fun (W' : World) (hb : Below w6.heap.size w6 W') => (show RdV W' (.slice yA yn yc) pb from (HRd.out.2.1.below Hal.out).below (bel_trans HB6.out hb)))
      have Hlp := Aside0.mk (show pa.length ≤ 8 ∧ pb.length ≤ 8 from ⟨by have := Hp.out.2.1.1.len; have := H.out.2.2.2.2; have := Hn.out.1; omega, by have := Hp.out.2.1.2.len; have := H.out.2.2.2.2; have := Hn.out.1; omega⟩)
      have HBr := Below.refl w6.heap.size w6
      clear hE0
      go_region_held3 (fun W' => W'.cell? ⟨pp, 0, none⟩ = some (.slice xA xn xc) ∧ W'.cell? ⟨pp, 1, none⟩ = some (.slice yA yn yc) ∧ Below w6.heap.size w6 W') (first | (exact ⟨bel_cell HB9 d0, bel_cell HB9 d1, HB9⟩) | (refine ⟨pw_cell_below (w := w6) ?_ d0, pw_cell_below (w := w6) ?_ d1, ?_⟩ <;> simp [*]) | go_keep)
        (first
          | (refine app_stepB (wb := w6) (by rfl) _ _ (by rfl) _ _ [] pa (by rfl) (by rfl) HE0.out (HPa.out _ (by simp [*])) (by simp [*]) (by have := Hlp.out; simp; omega) ?_; intro v7 w7 ho1 hb1 hg1 hat1; have HX3 := Aside0.mk (show OwI w7 w6.heap.size v7 pa from ho1); have HB9 := hb1; clear ho1 hb1 hg1 hat1)
          | (refine app_stepB (wb := w6) (by rfl) _ _ (by rfl) _ _ pa pb (by rfl) (by rfl) HX3.out (HPb.out _ (by simp [*])) (by simp [*]) (by have := Hlp.out; omega) ?_; intro v8 w8 ho1 hb1 hg1 hat1; have HX4 := Aside0.mk ho1.toV; have HB9 := hb1; clear ho1 hb1 hg1 hat1)
          | fail)
      rename_i hHeld
      have HB8 := Aside0.mk (bel_trans HB6.out HB9)
      clear hHeld HB9 HBr HE0 HX3 HPa HPb d0 d1
      obtain ⟨A8, c8, rfl, -, -⟩ := HX4.out
      obtain ⟨both, hboth⟩ : ∃ l, pa ++ pb = l := ⟨_, rfl⟩
      rw [hboth] at HX4 ⊢
      have HFd := Aside0.mk (fun (W' : World) (hc : Below w8.heap.size w8 W') => rfieldsF_any A A2 nT c c2 E (.slice A8 both.length c8) both W' (((H.out.2.1.below HBp.out).below HB8.out).below hc) (HX4.out.below hc) (by have := H.out.2.2.1.2; omega))
      obtain ⟨nb, hnb'⟩ : ∃ k, both.length = k := ⟨_, rfl⟩
      rw [Hn.out.2, hnb'] at HFd
      rw [hnb'] at HX4 ⊢
      have Hbo := Aside0.mk (And.intro hboth (And.intro hnb' (show nb ≤ 16 by rw [← hnb', ← hboth, List.length_append]; have := Hlp.out; omega)))
      have g0 : w8.cell? ⟨g, 0, none⟩ = some (.slice A nT c) := blk_cellD (Ow.blk_below Hb.out (bel_trans Hal.out HB8.out)) 0 _ rfl
      have g1' : w8.cell? ⟨g, 1, none⟩ = some (.slice A2 nE c2) := blk_cellD (Ow.blk_below Hb.out (bel_trans Hal.out HB8.out)) 1 _ rfl
      clear hboth hnb'
      go_wp2_with fail
      refine (HFd.out w8 (Below.refl _ _)).mono ?_
      rintro e w9 ⟨v9, rfl, r1, r2⟩
      have HB9 := Aside0.mk (bel_trans HB8.out r2)
      have HF9 := Aside0.mk (r1.lower (base' := wr.heap.size) (by have := Hal.out.size; have := HB8.out.size; omega))
      obtain ⟨A9, c9, hv9, -, -⟩ := r1.rd
      subst hv9
      obtain ⟨fl, hfl⟩ : ∃ fl, fieldsG E both = fl := ⟨_, rfl⟩
      rw [hfl] at HF9 ⊢
      obtain ⟨nf, hnf⟩ : ∃ nf, fl.length = nf := ⟨_, rfl⟩
      have Hnf := Aside0.mk (And.intro hnf (And.intro hfl (show nf ≤ 60 by rw [← hnf, ← hfl]; exact Nat.le_trans (fields_len E _) H.out.2.2.1.2)))
      rw [hnf] at HF9 ⊢
      have HV9 := Aside0.mk (show Stay G w9 (.slice A9 nf c9) fl from HF9.out.stay (fun k hk => (HF.out k hk).2))
      have HO9 := Aside0.mk (HV.out.below (bel_trans Hal.out HB9.out))
      have Hq9 := Aside0.mk (show w9.heap[pp]? = some (.cells #[.slice xA xn xc, .slice yA yn yc, .slice zA zn zc] 110 (0, 0)) from Ow.blk_below Hpb.out HB9.out)
      have HF9' := Aside0.mk (fun k (hk : G k) => (show W.heap.size ≤ k ∧ k < w9.heap.size from ⟨(HF.out k hk).1, by have := (HF.out k hk).2; have := Hal.out.size; have := HB9.out.size; omega⟩))
      have HBW9 := Aside0.mk (bel_trans HBp.out HB9.out)
      have HP9 := Aside0.mk HP.out
      have HI9 := Aside0.mk (show Bfs T E [o] [x] P i (fl.take 0) from HI.out)
      have HIP := Aside0.mk (show i < P.length ∧ P.getD i noP = (pa, pb, wd) from ⟨Hin.out.2, Hp.out.1⟩)
      clear r1 r2 hfl hnf g0 g1' HFd HF9
      go_wp2_with fail
      have HS9 := Aside0.mk (show Stay G w9 (.slice xA xn xc) pa ∧ Stay G w9 (.slice yA yn yc) pb ∧ Stay G w9 (.slice zA zn zc) wd from ⟨HSt.out.1.below (bel_trans Hal.out HB9.out), HSt.out.2.1.below (bel_trans Hal.out HB9.out), HSt.out.2.2.below (bel_trans Hal.out HB9.out)⟩)
      have HGp9 := Aside0.mk (show ¬ G pp from fun h => by have := (HF.out pp h).2; have := Hpp.out; omega)
      have Hg9 := Aside0.mk (Ow.blk_below Hb.out (bel_trans Hal.out HB9.out))
      have HTy := Aside0.mk (show tyG T pa = tyG T pb from of_decide_eq_true HBa.out)
      clear HI HP HV HF HB Hb HSt HRd Hal Hpb HBp HBa HB6 HB8 HB9 HX4 Hpp Hin
      go_loopw [8, 13] (fun V I wx => ∃ (k : Nat) (G : Nat → Prop) (Q : List Pr), I = .int .i64 (k : Int) ∧ k ≤ nf ∧ Aside0 (OwQ wx G V Q) ∧ Aside0 (Bfs T E [o] [x] Q i (fl.take k)) ∧ Aside0 (PI nT Q) ∧ Aside0 (i < Q.length ∧ Q.getD i noP = (pa, pb, wd)) ∧ Aside0 (Stay G wx (.slice A9 nf c9) fl) ∧ Aside0 (Stay G wx (.slice xA xn xc) pa ∧ Stay G wx (.slice yA yn yc) pb ∧ Stay G wx (.slice zA zn zc) wd) ∧ Aside0 (wx.heap[pp]? = some (.cells #[.slice xA xn xc, .slice yA yn yc, .slice zA zn zc] 110 (0, 0)) ∧ ¬ G pp) ∧ Aside0 (∀ k, G k → W.heap.size ≤ k ∧ k < wx.heap.size) ∧ Aside0 (Below W.heap.size W wx) ∧ Aside0 (wx.heap[g]? = some (.cells #[.slice A nT c, .slice A2 nE c2] 25 (0, 0)))) (fun _ I _ => nf - (intOf I).toNat)
      case atStart => exact ⟨0, G, P, rfl, Nat.zero_le _, HO9, HI9, HP9, HIP, HV9, HS9, ⟨Hq9.out, HGp9.out⟩, HF9', HBW9, Hg9⟩
      case round =>
        clear HO9 HI9 HP9 HIP HV9 HS9 Hq9 HGp9 HF9' HBW9 Hg9
        obtain ⟨k, G, Q, rfl, hk, HV, HI, HP, HIp, HVf, HSt, Hpb, HF, HB, Hb⟩ := hrel
        obtain ⟨AV, cV, hV⟩ := HV.out.toQ.len
        subst hV
        obtain ⟨ln, hln⟩ : ∃ ln, Q.length = ln := ⟨_, rfl⟩
        have Hln := Aside0.mk (And.intro hln (show ln ≤ 65536 by rw [← hln]; exact HP.out.len8 (by rw [← Hn.out.1]; exact H.out.2.2.2.2)))
        rw [hln] at HV ⊢
        clear hln
        have k2 : (k : Int) ≤ 60 := by have := Hnf.out.2.2; omega
        by_cases hgo : k < nf ∧ 0 < nb
        · have hnb : decide ((k : Int) < (nf : Int)) = true := decide_eq_true (by omega)
          have hnc : decide (k < nf) = true := decide_eq_true hgo.1
          have hnd : decide ((0 : Int) < (nb : Int)) = true := decide_eq_true (by omega)
          have hne : decide (0 < nb) = true := decide_eq_true hgo.2
          have k0 : (0 : Int) ≤ (k : Int) := by omega
          have k1 : (k : Int) < (nf : Int) := by omega
          have hkl : k < fl.length := by rw [Hnf.out.1]; exact hgo.1
          obtain ⟨A', c', e', hc', hr'⟩ := HVf.out.rd
          obtain ⟨ad3, had3, hx⟩ := hr'.at_ (k : Int) (by omega) (by omega)
          injection e' with ea eb ec
          subst ea
          subst had3
          obtain ⟨f, hff⟩ : ∃ f, fl.getD k 0 = f := ⟨_, rfl⟩
          have hx : wr.cell? (ad3.add k) = some (.int .i64 f) := by rw [← hff]; simpa [rd] using hx
          have htk := take_snoc hkl
          rw [hff] at htk
          have hlt : ∀ y ∈ fl.take k, y < f := by rw [← hff]; exact srt_take (by rw [← Hnf.out.2.1]; exact srt_fieldsG _ _) hkl
          have Hk := Aside0.mk (And.intro hgo.1 (And.intro htk hlt))
          have g0 : wr.cell? ⟨g, 0, none⟩ = some (.slice A nT c) := blk_cellD Hb.out 0 _ rfl
          have g1' : wr.cell? ⟨g, 1, none⟩ = some (.slice A2 nE c2) := blk_cellD Hb.out 1 _ rfl
          have d0 : wr.cell? ⟨pp, 0, none⟩ = some (.slice xA xn xc) := blk_cellD Hpb.out.1 0 _ rfl
          have d1 : wr.cell? ⟨pp, 1, none⟩ = some (.slice yA yn yc) := blk_cellD Hpb.out.1 1 _ rfl
          obtain ⟨ta, hta⟩ : ∃ t, nextG E f pa = t := ⟨_, rfl⟩
          obtain ⟨tb, htb⟩ : ∃ t, nextG E f pb = t := ⟨_, rfl⟩
          have HNa := Aside0.mk (fun (W' : World) (hb : Below wr.heap.size wr W') => (rnextF_any A A2 nT c c2 E f (.slice xA xn xc) pa W' ((H.out.2.1.below HB.out).below hb) (HSt.out.1.rd.below hb) (by have := H.out.2.2.1.2; omega)).mono (fun e w' ⟨v, h1, h2, h3⟩ => (show FSaid W'.heap.size W' (nextG E f pa) e w' from ⟨v, h1, h2, h3⟩)))
          have HNb := Aside0.mk (fun (W' : World) (hb : Below wr.heap.size wr W') => (rnextF_any A A2 nT c c2 E f (.slice yA yn yc) pb W' ((H.out.2.1.below HB.out).below hb) (HSt.out.2.1.rd.below hb) (by have := H.out.2.2.1.2; omega)).mono (fun e w' ⟨v, h1, h2, h3⟩ => (show FSaid W'.heap.size W' (nextG E f pb) e w' from ⟨v, h1, h2, h3⟩)))
          rw [hta, Hn.out.2] at HNa
          rw [htb, Hn.out.2] at HNb
          have Ht := Aside0.mk (And.intro hta htb)
          have HBr := Below.refl wr.heap.size wr
          clear hgo hkl hc' hr' eb ec hff htk hlt hta htb hk
          replace k0 := eq_true k0
          replace k1 := eq_true k1
          go_upto_region 13 with fail
          go_cut [14] (fun v14 wc => ∃ (pq : Nat) (aA bA : Option Addr) (an ac bn bc : Nat), v14 = .pointer (some ⟨pq, 0, none⟩) ∧ Aside0 (wc.heap[pq]? = some (.cells #[.slice aA an ac, .slice bA bn bc, .slice none 0 0] 110 (0, 0)) ∧ wr.heap.size ≤ pq) ∧ Aside0 (Stay (fun k => k < wr.heap.size ∨ k = pq) wc (.slice aA an ac) ta ∧ Stay (fun k => k < wr.heap.size ∨ k = pq) wc (.slice bA bn bc) tb) ∧ Aside0 (Below wr.heap.size wr wc))
          case first =>
            refine wp_region_held_drew (S := (fun W' => W'.cell? ⟨g, 0, none⟩ = some (.slice A nT c) ∧ W'.cell? ⟨g, 1, none⟩ = some (.slice A2 nE c2) ∧ W'.cell? ⟨pp, 0, none⟩ = some (.slice xA xn xc) ∧ W'.cell? ⟨pp, 1, none⟩ = some (.slice yA yn yc) ∧ W'.cell? (ad3.add k) = some (.int .i64 f))) (by kernel_rfl) ?_ (fun hHeld => ?_)
            · exact ⟨bel_cell (below_drew HBr) g0, bel_cell (below_drew HBr) g1', bel_cell (below_drew HBr) d0, bel_cell (below_drew HBr) d1, pw_cell_below (below_drew HBr) hx⟩
            refine wpAnyH_take (i := 0) (oi := _) (v := ?_) (List.getElem?_toArray.trans rfl) (by kernel_rfl) (by kernel_rfl) (by kernel_rfl) (fun _ _ _ h => h) (Or.inl ⟨by rfl, ?_⟩) (by assumption) ?_
            rotate_left
            · intro w hSw; (try dsimp only at hSw); go_simp <;> with_reducible rfl
            try simp only [Act.put, List.setIfInBounds_toArray, List.set_cons_zero, List.set_cons_succ]
            refine wpAnyH_take (i := 1) (oi := _) (v := ?_) (List.getElem?_toArray.trans rfl) (by kernel_rfl) (by kernel_rfl) (by kernel_rfl) (fun _ _ _ h => h) (Or.inl ⟨by rfl, ?_⟩) (by assumption) ?_
            rotate_left
            · intro w hSw; (try dsimp only at hSw); go_simp <;> with_reducible rfl
            try simp only [Act.put, List.setIfInBounds_toArray, List.set_cons_zero, List.set_cons_succ]
            refine wpAnyH_take (i := 2) (oi := _) (v := ?_) (List.getElem?_toArray.trans rfl) (by kernel_rfl) (by kernel_rfl) (by kernel_rfl) (fun _ _ _ h => h) (Or.inl ⟨by rfl, ?_⟩) (by assumption) ?_
            rotate_left
            · intro w hSw; (try dsimp only at hSw); go_simp <;> with_reducible rfl
            try simp only [Act.put, List.setIfInBounds_toArray, List.set_cons_zero, List.set_cons_succ]
            refine wpAnyH_take (i := 3) (oi := _) (v := ?_) (List.getElem?_toArray.trans rfl) (by kernel_rfl) (by kernel_rfl) (by kernel_rfl) (fun _ _ _ h => h) (Or.inl ⟨by rfl, ?_⟩) (by assumption) ?_
            rotate_left
            · intro w hSw; (try dsimp only at hSw); go_simp <;> with_reducible rfl
            try simp only [Act.put, List.setIfInBounds_toArray, List.set_cons_zero, List.set_cons_succ]
            refine wpAnyH_take (i := 4) (oi := _) (v := ?_) (List.getElem?_toArray.trans rfl) (by kernel_rfl) (by kernel_rfl) (by kernel_rfl) (fun _ _ _ h => h) (Or.inl ⟨by rfl, ?_⟩) (by assumption) ?_
            rotate_left
            · intro w hSw; (try dsimp only at hSw); go_simp <;> with_reducible rfl
            try simp only [Act.put, List.setIfInBounds_toArray, List.set_cons_zero, List.set_cons_succ]
            refine wpAnyH_take (i := 5) (oi := _) (v := ?_) (List.getElem?_toArray.trans rfl) (by kernel_rfl) (by kernel_rfl) (by kernel_rfl) (fun _ _ _ h => h) (Or.inl ⟨by rfl, ?_⟩) (by assumption) ?_
            rotate_left
            · intro w hSw; (try dsimp only at hSw); go_simp <;> with_reducible rfl
            try simp only [Act.put, List.setIfInBounds_toArray, List.set_cons_zero, List.set_cons_succ]
            refine wpAnyH_take (i := 6) (oi := _) (v := ?_) (List.getElem?_toArray.trans rfl) (by kernel_rfl) (by kernel_rfl) (by kernel_rfl) (fun _ _ _ h => h) (Or.inl ⟨by rfl, ?_⟩) (by assumption) ?_
            rotate_left
            · intro w hSw; (try dsimp only at hSw); go_simp <;> with_reducible rfl
            try simp only [Act.put, List.setIfInBounds_toArray, List.set_cons_zero, List.set_cons_succ]
            refine wpAnyH_take (i := 8) (oi := _) (v := ?_) (List.getElem?_toArray.trans rfl) (by kernel_rfl) (by kernel_rfl) (by kernel_rfl) (fun _ _ _ h => h) (Or.inl ⟨by rfl, ?_⟩) (by assumption) ?_
            rotate_left
            · intro w hSw; (try dsimp only at hSw); go_simp <;> with_reducible rfl
            try simp only [Act.put, List.setIfInBounds_toArray, List.set_cons_zero, List.set_cons_succ]
            refine wpAnyH_take (i := 9) (oi := _) (v := ?_) (List.getElem?_toArray.trans rfl) (by kernel_rfl) (by kernel_rfl) (by kernel_rfl) (fun _ _ _ h => h) (Or.inl ⟨by rfl, ?_⟩) (by assumption) ?_
            rotate_left
            · intro w hSw; (try dsimp only at hSw); go_simp <;> with_reducible rfl
            try simp only [Act.put, List.setIfInBounds_toArray, List.set_cons_zero, List.set_cons_succ]
            refine wpAnyH_take (i := 10) (oi := _) (v := ?_) (List.getElem?_toArray.trans rfl) (by kernel_rfl) (by kernel_rfl) (by kernel_rfl) (fun _ _ _ h => h) (Or.inl ⟨by rfl, ?_⟩) (by assumption) ?_
            rotate_left
            · intro w hSw; (try dsimp only at hSw); go_simp <;> with_reducible rfl
            try simp only [Act.put, List.setIfInBounds_toArray, List.set_cons_zero, List.set_cons_succ]
            refine wpAnyH_take (i := 11) (oi := _) (v := ?_) (List.getElem?_toArray.trans rfl) (by kernel_rfl) (by kernel_rfl) (by kernel_rfl) (fun _ _ _ h => h) (Or.inl ⟨by rfl, ?_⟩) (by assumption) ?_
            rotate_left
            · intro w hSw; (try dsimp only at hSw); go_simp <;> with_reducible rfl
            try simp only [Act.put, List.setIfInBounds_toArray, List.set_cons_zero, List.set_cons_succ]
            refine wpAnyH_take (i := 12) (oi := _) (v := ?_) (List.getElem?_toArray.trans rfl) (by kernel_rfl) (by kernel_rfl) (by kernel_rfl) (fun _ _ _ h => h) (Or.inl ⟨by rfl, ?_⟩) (by assumption) ?_
            rotate_left
            · intro w hSw; (try dsimp only at hSw); go_simp <;> with_reducible rfl
            try simp only [Act.put, List.setIfInBounds_toArray, List.set_cons_zero, List.set_cons_succ]
            refine wpAnyH_take (i := 13) (oi := _) (v := ?_) (List.getElem?_toArray.trans rfl) (by kernel_rfl) (by kernel_rfl) (by kernel_rfl) (fun _ _ _ h => h) (Or.inl ⟨by rfl, ?_⟩) (by assumption) ?_
            rotate_left
            · intro w hSw; (try dsimp only at hSw); go_simp <;> with_reducible rfl
            try simp only [Act.put, List.setIfInBounds_toArray, List.set_cons_zero, List.set_cons_succ]
            refine wpAnyH_take (i := 14) (oi := _) (v := ?_) (List.getElem?_toArray.trans rfl) (by kernel_rfl) (by kernel_rfl) (by kernel_rfl) (fun _ _ _ h => h) (Or.inl ⟨by rfl, ?_⟩) (by assumption) ?_
            rotate_left
            · intro w hSw; (try dsimp only at hSw); go_simp <;> with_reducible rfl
            try simp only [Act.put, List.setIfInBounds_toArray, List.set_cons_zero, List.set_cons_succ]
            refine wpAnyH_ready (rs := [7, 17]) (by kernel_rfl) (by simp) ?_
            refine (AllReadyH.cons (o := _) (List.getElem?_toArray.trans rfl) (fun K hK => ?_) (AllReadyH.cons (o := _) (List.getElem?_toArray.trans rfl) (fun K hK => ?_) AllReadyH.nil))
            ·
              go_simp
              (with_reducible refine (HNa.out _ (below_drew HBr)).mono ?_)
              rintro e w12 ⟨ua, rfl, r1, r2⟩
              obtain ⟨aA, an, ac, rfl⟩ := rdV_sl r1.rd
              have HXa := Aside0.mk (r1.lower (base' := wr.heap.size) (below_drew HBr).size)
              have HBw12 := Aside0.mk (bel_trans (below_drew HBr) r2)
              clear r1 r2
              refine hK.out _ _ ?_ (fun hHeld => ?_)
              · exact ⟨bel_cell HBw12.out g0, bel_cell HBw12.out g1', bel_cell HBw12.out d0, bel_cell HBw12.out d1, pw_cell_below HBw12.out hx⟩
              clear hK K
              try simp only [Act.put, List.setIfInBounds_toArray, List.set_cons_zero, List.set_cons_succ]
              refine wpAnyH_ready (rs := [15, 17]) (by kernel_rfl) (by simp) ?_
              refine (AllReadyH.cons (o := _) (List.getElem?_toArray.trans rfl) (fun K hK => ?_) (AllReadyH.cons (o := _) (List.getElem?_toArray.trans rfl) (fun K hK => ?_) AllReadyH.nil))
              ·
                go_simp
                (with_reducible refine (HNb.out _ (HBw12.out)).mono ?_)
                rintro e w13 ⟨ub, rfl, r1, r2⟩
                obtain ⟨bA, bn, bc, rfl⟩ := rdV_sl r1.rd
                have HXb := Aside0.mk (r1.lower (base' := wr.heap.size) (HBw12.out).size)
                have HXa := Aside0.mk (HXa.out.below r2)
                have HBw13 := Aside0.mk (bel_trans (HBw12.out) r2)
                clear r1 r2
                refine hK.out _ _ ?_ (fun hHeld => ?_)
                · exact ⟨bel_cell HBw13.out g0, bel_cell HBw13.out g1', bel_cell HBw13.out d0, bel_cell HBw13.out d1, pw_cell_below HBw13.out hx⟩
                clear hK K
                try simp only [Act.put, List.setIfInBounds_toArray, List.set_cons_zero, List.set_cons_succ]
                refine wpAnyH_take (i := 16) (oi := _) (v := ?_) (List.getElem?_toArray.trans rfl) (by kernel_rfl) (by kernel_rfl) (by kernel_rfl) (fun _ _ _ h => h) (Or.inl ⟨by rfl, ?_⟩) (by assumption) ?_
                rotate_left
                · intro w hSw; (try dsimp only at hSw); go_simp <;> with_reducible rfl
                try simp only [Act.put, List.setIfInBounds_toArray, List.set_cons_zero, List.set_cons_succ]
                refine wpAnyH_ready (rs := [17]) (by kernel_rfl) (by simp) ?_
                refine (AllReadyH.cons (o := _) (List.getElem?_toArray.trans rfl) (fun K hK => ?_) AllReadyH.nil)
                go_simp
                obtain ⟨pq, hpq⟩ : ∃ b, w13.heap.size = b := ⟨_, rfl⟩
                obtain ⟨wq, hwq⟩ : ∃ z, w13.alloc (.cells #[.slice none 0 0, .slice none 0 0, .slice none 0 0] 110) = z := ⟨_, rfl⟩
                have HQ := Aside0.mk (show wq.heap[pq]? = some (.cells #[.slice none 0 0, .slice none 0 0, .slice none 0 0] 110 (0, 0)) by rw [← hwq, ← hpq]; exact heap_alloc_new w13 _)
                have HBc := Aside0.mk (show Below w13.heap.size w13 wq by rw [← hwq]; exact below_alloc (Below.refl _ _) _)
                have HBq := Aside0.mk (bel_trans (HBw13.out) HBc.out)
                have HPq := Aside0.mk (show wr.heap.size ≤ pq by have := (HBw13.out).size; omega)
                have HXa := Aside0.mk ((HXa.out.fresh (pq := pq) (by omega)).below HBc.out)
                have HXb := Aside0.mk ((HXb.out.fresh (pq := pq) (by omega)).below HBc.out)
                simp only [hwq]
                try simp only [hpq]
                clear hpq hwq
                refine hK.out _ _ ?_ (fun hHeld => ?_)
                · exact ⟨bel_cell HBq.out g0, bel_cell HBq.out g1', bel_cell HBq.out d0, bel_cell HBq.out d1, pw_cell_below HBq.out hx⟩
                clear hK K
                try simp only [Act.put, List.setIfInBounds_toArray, List.set_cons_zero, List.set_cons_succ]
                refine wpAnyH_ready (rs := [18]) (by kernel_rfl) (by simp) ?_
                refine (AllReadyH.cons (o := _) (List.getElem?_toArray.trans rfl) (fun K hK => ?_) AllReadyH.nil)
                have hz0 := blk_frozen HQ.out 0
                have hc0 : wq.cell? ⟨pq, 0, none⟩ = some (.slice none 0 0) := blk_cellD HQ.out 0 _ rfl
                have hz1 := blk_frozen HQ.out 1
                have hc1 : wq.cell? ⟨pq, 1, none⟩ = some (.slice none 0 0) := blk_cellD HQ.out 1 _ rfl
                have hz2 := blk_frozen HQ.out 2
                have hc2 : wq.cell? ⟨pq, 2, none⟩ = some (.slice none 0 0) := blk_cellD HQ.out 2 _ rfl
                go_simp
                obtain ⟨w14, hw14⟩ : ∃ z, ((wq.setCell ⟨pq, 0, none⟩ (.slice aA an ac)).setCell ⟨pq, 1, none⟩ (.slice bA bn bc)).setCell ⟨pq, 2, none⟩ (.slice none 0 0) = z := ⟨_, rfl⟩
                have hC14 : Chg (fun k => k = pq) wq w14 := by rw [← hw14]; exact ((Chg.setCell wq (F := fun k => k = pq) (p := ⟨pq, 0, none⟩) rfl _).then_ (Chg.setCell _ (F := fun k => k = pq) (p := ⟨pq, 1, none⟩) rfl _) (fun k hk => .inl hk)).then_ (Chg.setCell _ (F := fun k => k = pq) (p := ⟨pq, 2, none⟩) rfl _) (fun k hk => .inl hk)
                have HQ14 := Aside0.mk (show w14.heap[pq]? = some (.cells #[.slice aA an ac, .slice bA bn bc, .slice none 0 0] 110 (0, 0)) by rw [← hw14]; have := blk_set (blk_set (blk_set HQ.out 0 (.slice aA an ac)) 1 (.slice bA bn bc)) 2 (.slice none 0 0); simpa using this)
                have HB14 := Aside0.mk (chg_own (HBq.out) (fun k (hk : k = pq) => by rw [hk]; exact HPq.out) hC14)
                have HR14 := Aside0.mk (And.intro (HXa.out.next (hC14.mono (fun k _ hk => .inr hk)) (fun k hk => .inl hk)) (HXb.out.next (hC14.mono (fun k _ hk => .inr hk)) (fun k hk => .inl hk)))
                simp only [hw14]
                clear hw14 hC14 hz0 hz1 hz2 hc0 hc1 hc2
                refine hK.out _ _ ?_ (fun hHeld => ?_)
                · exact ⟨bel_cell HB14.out g0, bel_cell HB14.out g1', bel_cell HB14.out d0, bel_cell HB14.out d1, pw_cell_below HB14.out hx⟩
                clear hK K
                try simp only [Act.put, List.setIfInBounds_toArray, List.set_cons_zero, List.set_cons_succ]
                refine wpAnyH_done (by kernel_rfl) ?_ _
                go_wp2_with fail
                go_meet
                case rel => exact ⟨pq, aA, bA, an, ac, bn, bc, rfl, ⟨HQ14.out, HPq.out⟩, HR14, HB14⟩
              ·
                go_simp
                obtain ⟨pq, hpq⟩ : ∃ b, w12.heap.size = b := ⟨_, rfl⟩
                obtain ⟨wq, hwq⟩ : ∃ z, w12.alloc (.cells #[.slice none 0 0, .slice none 0 0, .slice none 0 0] 110) = z := ⟨_, rfl⟩
                have HQ := Aside0.mk (show wq.heap[pq]? = some (.cells #[.slice none 0 0, .slice none 0 0, .slice none 0 0] 110 (0, 0)) by rw [← hwq, ← hpq]; exact heap_alloc_new w12 _)
                have HBc := Aside0.mk (show Below w12.heap.size w12 wq by rw [← hwq]; exact below_alloc (Below.refl _ _) _)
                have HBq := Aside0.mk (bel_trans (HBw12.out) HBc.out)
                have HPq := Aside0.mk (show wr.heap.size ≤ pq by have := (HBw12.out).size; omega)
                have HXa := Aside0.mk ((HXa.out.fresh (pq := pq) (by omega)).below HBc.out)
                simp only [hwq]
                try simp only [hpq]
                clear hpq hwq
                refine hK.out _ _ ?_ (fun hHeld => ?_)
                · exact ⟨bel_cell HBq.out g0, bel_cell HBq.out g1', bel_cell HBq.out d0, bel_cell HBq.out d1, pw_cell_below HBq.out hx⟩
                clear hK K
                try simp only [Act.put, List.setIfInBounds_toArray, List.set_cons_zero, List.set_cons_succ]
                refine wpAnyH_ready (rs := [15]) (by kernel_rfl) (by simp) ?_
                refine (AllReadyH.cons (o := _) (List.getElem?_toArray.trans rfl) (fun K hK => ?_) AllReadyH.nil)
                go_simp
                (with_reducible refine (HNb.out _ (HBq.out)).mono ?_)
                rintro e w13 ⟨ub, rfl, r1, r2⟩
                obtain ⟨bA, bn, bc, rfl⟩ := rdV_sl r1.rd
                have HXb := Aside0.mk (show Stay (fun k => k < wr.heap.size ∨ k = pq) w13 _ _ from r1.stay (fun k hk => by have h1 := (HBq.out).size; have h2 := blk_lt HQ.out; omega))
                have HXa := Aside0.mk (HXa.out.below r2)
                have HQ := Aside0.mk (Ow.blk_below HQ.out r2)
                have HBw13 := Aside0.mk (bel_trans (HBq.out) r2)
                clear r1 r2
                refine hK.out _ _ ?_ (fun hHeld => ?_)
                · exact ⟨bel_cell HBw13.out g0, bel_cell HBw13.out g1', bel_cell HBw13.out d0, bel_cell HBw13.out d1, pw_cell_below HBw13.out hx⟩
                clear hK K
                try simp only [Act.put, List.setIfInBounds_toArray, List.set_cons_zero, List.set_cons_succ]
                refine wpAnyH_take (i := 16) (oi := _) (v := ?_) (List.getElem?_toArray.trans rfl) (by kernel_rfl) (by kernel_rfl) (by kernel_rfl) (fun _ _ _ h => h) (Or.inl ⟨by rfl, ?_⟩) (by assumption) ?_
                rotate_left
                · intro w hSw; (try dsimp only at hSw); go_simp <;> with_reducible rfl
                try simp only [Act.put, List.setIfInBounds_toArray, List.set_cons_zero, List.set_cons_succ]
                refine wpAnyH_ready (rs := [18]) (by kernel_rfl) (by simp) ?_
                refine (AllReadyH.cons (o := _) (List.getElem?_toArray.trans rfl) (fun K hK => ?_) AllReadyH.nil)
                have hz0 := blk_frozen HQ.out 0
                have hc0 : w13.cell? ⟨pq, 0, none⟩ = some (.slice none 0 0) := blk_cellD HQ.out 0 _ rfl
                have hz1 := blk_frozen HQ.out 1
                have hc1 : w13.cell? ⟨pq, 1, none⟩ = some (.slice none 0 0) := blk_cellD HQ.out 1 _ rfl
                have hz2 := blk_frozen HQ.out 2
                have hc2 : w13.cell? ⟨pq, 2, none⟩ = some (.slice none 0 0) := blk_cellD HQ.out 2 _ rfl
                go_simp
                obtain ⟨w14, hw14⟩ : ∃ z, ((w13.setCell ⟨pq, 0, none⟩ (.slice aA an ac)).setCell ⟨pq, 1, none⟩ (.slice bA bn bc)).setCell ⟨pq, 2, none⟩ (.slice none 0 0) = z := ⟨_, rfl⟩
                have hC14 : Chg (fun k => k = pq) w13 w14 := by rw [← hw14]; exact ((Chg.setCell w13 (F := fun k => k = pq) (p := ⟨pq, 0, none⟩) rfl _).then_ (Chg.setCell _ (F := fun k => k = pq) (p := ⟨pq, 1, none⟩) rfl _) (fun k hk => .inl hk)).then_ (Chg.setCell _ (F := fun k => k = pq) (p := ⟨pq, 2, none⟩) rfl _) (fun k hk => .inl hk)
                have HQ14 := Aside0.mk (show w14.heap[pq]? = some (.cells #[.slice aA an ac, .slice bA bn bc, .slice none 0 0] 110 (0, 0)) by rw [← hw14]; have := blk_set (blk_set (blk_set HQ.out 0 (.slice aA an ac)) 1 (.slice bA bn bc)) 2 (.slice none 0 0); simpa using this)
                have HB14 := Aside0.mk (chg_own (HBw13.out) (fun k (hk : k = pq) => by rw [hk]; exact HPq.out) hC14)
                have HR14 := Aside0.mk (And.intro (HXa.out.next (hC14.mono (fun k _ hk => .inr hk)) (fun k hk => .inl hk)) (HXb.out.next (hC14.mono (fun k _ hk => .inr hk)) (fun k hk => .inl hk)))
                simp only [hw14]
                clear hw14 hC14 hz0 hz1 hz2 hc0 hc1 hc2
                refine hK.out _ _ ?_ (fun hHeld => ?_)
                · exact ⟨bel_cell HB14.out g0, bel_cell HB14.out g1', bel_cell HB14.out d0, bel_cell HB14.out d1, pw_cell_below HB14.out hx⟩
                clear hK K
                try simp only [Act.put, List.setIfInBounds_toArray, List.set_cons_zero, List.set_cons_succ]
                refine wpAnyH_done (by kernel_rfl) ?_ _
                go_wp2_with fail
                go_meet
                case rel => exact ⟨pq, aA, bA, an, ac, bn, bc, rfl, ⟨HQ14.out, HPq.out⟩, HR14, HB14⟩
            ·
              go_simp
              obtain ⟨pq, hpq⟩ : ∃ b, wr.heap.size = b := ⟨_, rfl⟩
              obtain ⟨wq, hwq⟩ : ∃ z, (wr.alloc (.cells #[.slice none 0 0, .slice none 0 0, .slice none 0 0] 110)).drew = z := ⟨_, rfl⟩
              have HQ := Aside0.mk (show wq.heap[pq]? = some (.cells #[.slice none 0 0, .slice none 0 0, .slice none 0 0] 110 (0, 0)) by rw [← hwq, ← hpq]; exact heap_alloc_new wr _)
              have HBq := Aside0.mk (show Below wr.heap.size wr wq by rw [← hwq]; exact below_drew (below_alloc (Below.refl _ _) _))
              have HPq := Aside0.mk (show wr.heap.size ≤ pq by omega)
              simp only [hwq]
              try simp only [hpq]
              clear hpq hwq
              refine hK.out _ _ ?_ (fun hHeld => ?_)
              · exact ⟨bel_cell HBq.out g0, bel_cell HBq.out g1', bel_cell HBq.out d0, bel_cell HBq.out d1, pw_cell_below HBq.out hx⟩
              clear hK K
              try simp only [Act.put, List.setIfInBounds_toArray, List.set_cons_zero, List.set_cons_succ]
              refine wpAnyH_ready (rs := [7]) (by kernel_rfl) (by simp) ?_
              refine (AllReadyH.cons (o := _) (List.getElem?_toArray.trans rfl) (fun K hK => ?_) AllReadyH.nil)
              go_simp
              (with_reducible refine (HNa.out _ (HBq.out)).mono ?_)
              rintro e w12 ⟨ua, rfl, r1, r2⟩
              obtain ⟨aA, an, ac, rfl⟩ := rdV_sl r1.rd
              have HXa := Aside0.mk (show Stay (fun k => k < wr.heap.size ∨ k = pq) w12 _ _ from r1.stay (fun k hk => by have h1 := (HBq.out).size; have h2 := blk_lt HQ.out; omega))
              have HQ := Aside0.mk (Ow.blk_below HQ.out r2)
              have HBw12 := Aside0.mk (bel_trans (HBq.out) r2)
              clear r1 r2
              refine hK.out _ _ ?_ (fun hHeld => ?_)
              · exact ⟨bel_cell HBw12.out g0, bel_cell HBw12.out g1', bel_cell HBw12.out d0, bel_cell HBw12.out d1, pw_cell_below HBw12.out hx⟩
              clear hK K
              try simp only [Act.put, List.setIfInBounds_toArray, List.set_cons_zero, List.set_cons_succ]
              refine wpAnyH_ready (rs := [15]) (by kernel_rfl) (by simp) ?_
              refine (AllReadyH.cons (o := _) (List.getElem?_toArray.trans rfl) (fun K hK => ?_) AllReadyH.nil)
              go_simp
              (with_reducible refine (HNb.out _ (HBw12.out)).mono ?_)
              rintro e w13 ⟨ub, rfl, r1, r2⟩
              obtain ⟨bA, bn, bc, rfl⟩ := rdV_sl r1.rd
              have HXb := Aside0.mk (show Stay (fun k => k < wr.heap.size ∨ k = pq) w13 _ _ from r1.stay (fun k hk => by have h1 := (HBw12.out).size; have h2 := blk_lt HQ.out; omega))
              have HXa := Aside0.mk (HXa.out.below r2)
              have HQ := Aside0.mk (Ow.blk_below HQ.out r2)
              have HBw13 := Aside0.mk (bel_trans (HBw12.out) r2)
              clear r1 r2
              refine hK.out _ _ ?_ (fun hHeld => ?_)
              · exact ⟨bel_cell HBw13.out g0, bel_cell HBw13.out g1', bel_cell HBw13.out d0, bel_cell HBw13.out d1, pw_cell_below HBw13.out hx⟩
              clear hK K
              try simp only [Act.put, List.setIfInBounds_toArray, List.set_cons_zero, List.set_cons_succ]
              refine wpAnyH_take (i := 16) (oi := _) (v := ?_) (List.getElem?_toArray.trans rfl) (by kernel_rfl) (by kernel_rfl) (by kernel_rfl) (fun _ _ _ h => h) (Or.inl ⟨by rfl, ?_⟩) (by assumption) ?_
              rotate_left
              · intro w hSw; (try dsimp only at hSw); go_simp <;> with_reducible rfl
              try simp only [Act.put, List.setIfInBounds_toArray, List.set_cons_zero, List.set_cons_succ]
              refine wpAnyH_ready (rs := [18]) (by kernel_rfl) (by simp) ?_
              refine (AllReadyH.cons (o := _) (List.getElem?_toArray.trans rfl) (fun K hK => ?_) AllReadyH.nil)
              have hz0 := blk_frozen HQ.out 0
              have hc0 : w13.cell? ⟨pq, 0, none⟩ = some (.slice none 0 0) := blk_cellD HQ.out 0 _ rfl
              have hz1 := blk_frozen HQ.out 1
              have hc1 : w13.cell? ⟨pq, 1, none⟩ = some (.slice none 0 0) := blk_cellD HQ.out 1 _ rfl
              have hz2 := blk_frozen HQ.out 2
              have hc2 : w13.cell? ⟨pq, 2, none⟩ = some (.slice none 0 0) := blk_cellD HQ.out 2 _ rfl
              go_simp
              obtain ⟨w14, hw14⟩ : ∃ z, ((w13.setCell ⟨pq, 0, none⟩ (.slice aA an ac)).setCell ⟨pq, 1, none⟩ (.slice bA bn bc)).setCell ⟨pq, 2, none⟩ (.slice none 0 0) = z := ⟨_, rfl⟩
              have hC14 : Chg (fun k => k = pq) w13 w14 := by rw [← hw14]; exact ((Chg.setCell w13 (F := fun k => k = pq) (p := ⟨pq, 0, none⟩) rfl _).then_ (Chg.setCell _ (F := fun k => k = pq) (p := ⟨pq, 1, none⟩) rfl _) (fun k hk => .inl hk)).then_ (Chg.setCell _ (F := fun k => k = pq) (p := ⟨pq, 2, none⟩) rfl _) (fun k hk => .inl hk)
              have HQ14 := Aside0.mk (show w14.heap[pq]? = some (.cells #[.slice aA an ac, .slice bA bn bc, .slice none 0 0] 110 (0, 0)) by rw [← hw14]; have := blk_set (blk_set (blk_set HQ.out 0 (.slice aA an ac)) 1 (.slice bA bn bc)) 2 (.slice none 0 0); simpa using this)
              have HB14 := Aside0.mk (chg_own (HBw13.out) (fun k (hk : k = pq) => by rw [hk]; exact HPq.out) hC14)
              have HR14 := Aside0.mk (And.intro (HXa.out.next (hC14.mono (fun k _ hk => .inr hk)) (fun k hk => .inl hk)) (HXb.out.next (hC14.mono (fun k _ hk => .inr hk)) (fun k hk => .inl hk)))
              simp only [hw14]
              clear hw14 hC14 hz0 hz1 hz2 hc0 hc1 hc2
              refine hK.out _ _ ?_ (fun hHeld => ?_)
              · exact ⟨bel_cell HB14.out g0, bel_cell HB14.out g1', bel_cell HB14.out d0, bel_cell HB14.out d1, pw_cell_below HB14.out hx⟩
              clear hK K
              try simp only [Act.put, List.setIfInBounds_toArray, List.set_cons_zero, List.set_cons_succ]
              refine wpAnyH_done (by kernel_rfl) ?_ _
              go_wp2_with fail
              go_meet
              case rel => exact ⟨pq, aA, bA, an, ac, bn, bc, rfl, ⟨HQ14.out, HPq.out⟩, HR14, HB14⟩
          case rest =>
            rename World => w14c
            obtain ⟨pq, aA, bA, an, ac, bn, bc, rfl, HQ, HX, HB14⟩ := hcut
            have c2' : w14c.cell? ⟨pq, 2, none⟩ = some (.slice none 0 0) := blk_cellD HQ.out.1 2 _ rfl
            have e2 : wr.cell? ⟨pp, 2, none⟩ = some (.slice zA zn zc) := blk_cellD Hpb.out.1 2 _ rfl
            have hx0 := hx
            have d2 : w14c.cell? ⟨pp, 2, none⟩ = some (.slice zA zn zc) := pw_cell_below HB14.out e2
            have hx : w14c.cell? (ad3.add k) = some (.int .i64 f) := pw_cell_below HB14.out hx0
            have HZ := Aside0.mk (fun (W' : World) (hb : Below w14c.heap.size w14c W') => (HSt.out.2.2.rd.below HB14.out).below hb)
            clear g0 g1' d0 d1 HNa HNb HBr
            go_upto_region 14 with fail
            go_cut [] (fun wv => ∃ (dA : Option Addr) (dn dc : Nat), Aside0 (wv.heap[pq]? = some (.cells #[.slice aA an ac, .slice bA bn bc, .slice dA dn dc] 110 (0, 0))) ∧ Aside0 (Stay (fun k => k < wr.heap.size ∨ k = pq) wv (.slice dA dn dc) (wd ++ [f])) ∧ Aside0 (Chg (fun k => k = pq) w14c wv))
            case first =>
              refine wp_region_held_drew (S := (fun W' => W'.cell? ⟨pp, 2, none⟩ = some (.slice zA zn zc) ∧ W'.cell? (ad3.add k) = some (.int .i64 f))) (by kernel_rfl) ?_ (fun hHeld => ?_)
              · exact ⟨bel_cell (below_drew (Below.refl _ _)) d2, pw_cell_below (below_drew (Below.refl _ _)) hx⟩
              refine wpAnyH_take (i := 0) (oi := _) (v := ?_) (List.getElem?_toArray.trans rfl) (by kernel_rfl) (by kernel_rfl) (by kernel_rfl) (fun _ _ _ h => h) (Or.inl ⟨by rfl, ?_⟩) (by assumption) ?_
              rotate_left
              · intro w hSw; (try dsimp only at hSw); go_simp <;> with_reducible rfl
              try simp only [Act.put, List.setIfInBounds_toArray, List.set_cons_zero, List.set_cons_succ]
              refine wpAnyH_take (i := 2) (oi := _) (v := ?_) (List.getElem?_toArray.trans rfl) (by kernel_rfl) (by kernel_rfl) (by kernel_rfl) (fun _ _ _ h => h) (Or.inl ⟨by rfl, ?_⟩) (by assumption) ?_
              rotate_left
              · intro w hSw; (try dsimp only at hSw); go_simp <;> with_reducible rfl
              try simp only [Act.put, List.setIfInBounds_toArray, List.set_cons_zero, List.set_cons_succ]
              refine wpAnyH_take (i := 3) (oi := _) (v := ?_) (List.getElem?_toArray.trans rfl) (by kernel_rfl) (by kernel_rfl) (by kernel_rfl) (fun _ _ _ h => h) (Or.inl ⟨by rfl, ?_⟩) (by assumption) ?_
              rotate_left
              · intro w hSw; (try dsimp only at hSw); go_simp <;> with_reducible rfl
              try simp only [Act.put, List.setIfInBounds_toArray, List.set_cons_zero, List.set_cons_succ]
              refine wpAnyH_take (i := 5) (oi := _) (v := ?_) (List.getElem?_toArray.trans rfl) (by kernel_rfl) (by kernel_rfl) (by kernel_rfl) (fun _ _ _ h => h) (Or.inl ⟨by rfl, ?_⟩) (by assumption) ?_
              rotate_left
              · intro w hSw; (try dsimp only at hSw); go_simp <;> with_reducible rfl
              try simp only [Act.put, List.setIfInBounds_toArray, List.set_cons_zero, List.set_cons_succ]
              refine wpAnyH_take (i := 6) (oi := _) (v := ?_) (List.getElem?_toArray.trans rfl) (by kernel_rfl) (by kernel_rfl) (by kernel_rfl) (fun _ _ _ h => h) (Or.inl ⟨by rfl, ?_⟩) (by assumption) ?_
              rotate_left
              · intro w hSw; (try dsimp only at hSw); go_simp <;> with_reducible rfl
              try simp only [Act.put, List.setIfInBounds_toArray, List.set_cons_zero, List.set_cons_succ]
              refine wpAnyH_take (i := 7) (oi := _) (v := ?_) (List.getElem?_toArray.trans rfl) (by kernel_rfl) (by kernel_rfl) (by kernel_rfl) (fun _ _ _ h => h) (Or.inl ⟨by rfl, ?_⟩) (by assumption) ?_
              rotate_left
              · intro w hSw; (try dsimp only at hSw); go_simp <;> with_reducible rfl
              try simp only [Act.put, List.setIfInBounds_toArray, List.set_cons_zero, List.set_cons_succ]
              refine wpAnyH_take (i := 8) (oi := _) (v := ?_) (List.getElem?_toArray.trans rfl) (by kernel_rfl) (by kernel_rfl) (by kernel_rfl) (fun _ _ _ h => h) (Or.inl ⟨by rfl, ?_⟩) (by assumption) ?_
              rotate_left
              · intro w hSw; (try dsimp only at hSw); go_simp <;> with_reducible rfl
              try simp only [Act.put, List.setIfInBounds_toArray, List.set_cons_zero, List.set_cons_succ]
              refine wpAnyH_ready (rs := [1, 9]) (by kernel_rfl) (by simp) ?_
              refine (AllReadyH.cons (o := _) (List.getElem?_toArray.trans rfl) (fun K hK => ?_) (AllReadyH.cons (o := _) (List.getElem?_toArray.trans rfl) (fun K hK => ?_) AllReadyH.nil))
              ·
                have hc2 := c2'
                go_simp
                clear hc2
                refine hK.out _ _ ?_ (fun hHeld => ?_)
                · exact ⟨bel_cell (below_drew (Below.refl _ _)) d2, pw_cell_below (below_drew (Below.refl _ _)) hx⟩
                clear hK K
                try simp only [Act.put, List.setIfInBounds_toArray, List.set_cons_zero, List.set_cons_succ]
                refine wpAnyH_ready (rs := [4, 9]) (by kernel_rfl) (by simp) ?_
                refine (AllReadyH.cons (o := _) (List.getElem?_toArray.trans rfl) (fun K hK => ?_) (AllReadyH.cons (o := _) (List.getElem?_toArray.trans rfl) (fun K hK => ?_) AllReadyH.nil))
                ·
                  refine app_stepB (wb := w14c) (by rfl) _ _ (by rfl) _ _ [] wd (by rfl) (by rfl) (OwI.nil _ _) (HZ.out _ (below_drew (Below.refl _ _))) (below_drew (Below.refl _ _)) (by have := Hp.out.2.2; have := Hln.out.2; have := HIp.out.1; simp; omega) ?_
                  intro v7 w7 ho1 hb1 hg1 hat1
                  have HX3 := Aside0.mk (show OwI w7 w14c.heap.size v7 wd from ho1)
                  have HB7 := Aside0.mk hb1
                  clear ho1 hb1 hg1 hat1
                  refine hK.out _ _ ?_ (fun hHeld => ?_)
                  · exact ⟨bel_cell (HB7.out) d2, pw_cell_below (HB7.out) hx⟩
                  clear hK K
                  try simp only [Act.put, List.setIfInBounds_toArray, List.set_cons_zero, List.set_cons_succ]
                  refine wpAnyH_ready (rs := [9]) (by kernel_rfl) (by simp) ?_
                  refine (AllReadyH.cons (o := _) (List.getElem?_toArray.trans rfl) (fun K hK => ?_) AllReadyH.nil)
                  go_simp
                  obtain ⟨gl, hgl⟩ : ∃ b, w7.heap.size = b := ⟨_, rfl⟩
                  obtain ⟨wl, hwl⟩ : ∃ z, w7.alloc (.cells #[.int .i64 f] 3) = z := ⟨_, rfl⟩
                  have HL := Aside0.mk (show wl.heap[gl]? = some (.cells #[.int .i64 f] 3 (0, 0)) by rw [← hwl, ← hgl]; exact heap_alloc_new w7 _)
                  have HBc := Aside0.mk (show Below w7.heap.size w7 wl by rw [← hwl]; exact below_alloc (Below.refl _ _) _)
                  have HBl := Aside0.mk (bel_trans (HB7.out) HBc.out)
                  have HX3 := Aside0.mk (HX3.out.below HBc.out)
                  have HRl := Aside0.mk (show RdV wl (.slice (some ⟨gl, 0, none⟩) 1 1) [f] from rdV_lit (l := [f]) HL.out rfl (by simp))
                  simp only [hwl]
                  try simp only [hgl]
                  clear hgl hwl
                  refine hK.out _ _ ?_ (fun hHeld => ?_)
                  · exact ⟨bel_cell (HBl.out) d2, pw_cell_below (HBl.out) hx⟩
                  clear hK K
                  try simp only [Act.put, List.setIfInBounds_toArray, List.set_cons_zero, List.set_cons_succ]
                  refine wpAnyH_ready (rs := [10]) (by kernel_rfl) (by simp) ?_
                  refine (AllReadyH.cons (o := _) (List.getElem?_toArray.trans rfl) (fun K hK => ?_) AllReadyH.nil)
                  refine app_stepB (wb := w14c) (by rfl) _ _ (by rfl) _ _ wd [f] (by rfl) (by rfl) HX3.out HRl.out (HBl.out) (by have := Hp.out.2.2; have := Hln.out.2; have := HIp.out.1; simp; omega) ?_
                  intro v8 w8 ho1 hb1 hg1 hat1
                  obtain ⟨dA, dc, hv8, hv8a, hv8b⟩ := ho1.rd
                  clear hv8a hv8b
                  generalize (wd ++ [f]).length = dn at hv8
                  subst hv8
                  have HX8 := Aside0.mk ho1
                  have HB8 := Aside0.mk hb1
                  clear ho1 hb1 hg1 hat1
                  refine hK.out _ _ ?_ (fun hHeld => ?_)
                  · exact ⟨bel_cell (HB8.out) d2, pw_cell_below (HB8.out) hx⟩
                  clear hK K
                  try simp only [Act.put, List.setIfInBounds_toArray, List.set_cons_zero, List.set_cons_succ]
                  refine wpAnyH_take (i := 11) (oi := _) (v := ?_) (List.getElem?_toArray.trans rfl) (by kernel_rfl) (by kernel_rfl) (by kernel_rfl) (fun _ _ _ h => h) (Or.inl ⟨by rfl, ?_⟩) (by assumption) ?_
                  rotate_left
                  · intro w hSw; (try dsimp only at hSw); go_simp <;> with_reducible rfl
                  try simp only [Act.put, List.setIfInBounds_toArray, List.set_cons_zero, List.set_cons_succ]
                  refine wpAnyH_ready (rs := [12]) (by kernel_rfl) (by simp) ?_
                  refine (AllReadyH.cons (o := _) (List.getElem?_toArray.trans rfl) (fun K hK => ?_) AllReadyH.nil)
                  have HQ8 := Aside0.mk (Ow.blk_below HQ.out.1 HB8.out)
                  have hz2 := blk_frozen HQ8.out 2
                  have hc2 : w8.cell? ⟨pq, 2, none⟩ = some (.slice none 0 0) := blk_cellD HQ8.out 2 _ rfl
                  go_simp
                  obtain ⟨w15, hw15⟩ : ∃ z, w8.setCell ⟨pq, 2, none⟩ (.slice dA dn dc) = z := ⟨_, rfl⟩
                  have hC15 : Chg (fun k => k = pq) w8 w15 := by rw [← hw15]; exact Chg.setCell w8 (F := fun k => k = pq) (p := ⟨pq, 2, none⟩) rfl _
                  have HQ15 := Aside0.mk (show w15.heap[pq]? = some (.cells #[.slice aA an ac, .slice bA bn bc, .slice dA dn dc] 110 (0, 0)) by rw [← hw15]; have := blk_set HQ8.out 2 (.slice dA dn dc); simpa using this)
                  have HC15 := Aside0.mk (show Chg (fun k => k = pq) w14c w15 from ((Chg.of_below HB8.out _).then_ hC15 (fun k hk => .inl hk)))
                  have HD15 := Aside0.mk (show Stay (fun k => k < wr.heap.size ∨ k = pq) w15 (.slice dA dn dc) (wd ++ [f]) from (Stay.of_own (F := fun k => k < wr.heap.size ∨ k = pq) (OwF.of_own (F := fun k => w14c.heap.size ≤ k) HX8.out (fun k h _ => h)) (fun k hk hd => by have h1 := blk_lt HQ.out.1; have h2 := HB14.out.size; omega)).next (hC15.mono (fun k _ hk => .inr hk)) (fun k hk => .inl hk))
                  simp only [hw15]
                  have d2w : w15.cell? ⟨pp, 2, none⟩ = some (.slice zA zn zc) := pw_cell_below (chg_own HB14.out (fun k (hk : k = pq) => by rw [hk]; exact HQ.out.2) HC15.out) e2
                  have hxw : w15.cell? (ad3.add k) = some (.int .i64 f) := pw_cell_below (chg_own HB14.out (fun k (hk : k = pq) => by rw [hk]; exact HQ.out.2) HC15.out) hx0
                  clear hw15 hC15 hz2 hc2
                  refine hK.out _ _ ?_ (fun hHeld => ?_)
                  · exact ⟨d2w, hxw⟩
                  clear hK K
                  try simp only [Act.put, List.setIfInBounds_toArray, List.set_cons_zero, List.set_cons_succ]
                  refine wpAnyH_done (by kernel_rfl) ?_ _
                  clear d2w hxw
                  go_wp2_with fail
                  go_meet
                  case rel => exact ⟨dA, dn, dc, HQ15, HD15, HC15⟩
                ·
                  go_simp
                  obtain ⟨gl, hgl⟩ : ∃ b, w14c.heap.size = b := ⟨_, rfl⟩
                  obtain ⟨wl, hwl⟩ : ∃ z, (w14c.alloc (.cells #[.int .i64 f] 3)).drew = z := ⟨_, rfl⟩
                  have HL := Aside0.mk (show wl.heap[gl]? = some (.cells #[.int .i64 f] 3 (0, 0)) by rw [← hwl, ← hgl]; exact heap_alloc_new w14c _)
                  have HBl := Aside0.mk (show Below w14c.heap.size w14c wl by rw [← hwl]; exact below_drew (below_alloc (Below.refl _ _) _))
                  have HRl := Aside0.mk (show RdV wl (.slice (some ⟨gl, 0, none⟩) 1 1) [f] from rdV_lit (l := [f]) HL.out rfl (by simp))
                  simp only [hwl]
                  try simp only [hgl]
                  clear hgl hwl
                  refine hK.out _ _ ?_ (fun hHeld => ?_)
                  · exact ⟨bel_cell (HBl.out) d2, pw_cell_below (HBl.out) hx⟩
                  clear hK K
                  try simp only [Act.put, List.setIfInBounds_toArray, List.set_cons_zero, List.set_cons_succ]
                  refine wpAnyH_ready (rs := [4]) (by kernel_rfl) (by simp) ?_
                  refine (AllReadyH.cons (o := _) (List.getElem?_toArray.trans rfl) (fun K hK => ?_) AllReadyH.nil)
                  refine app_stepB (wb := w14c) (by rfl) _ _ (by rfl) _ _ [] wd (by rfl) (by rfl) (OwI.nil _ _) (HZ.out _ (HBl.out)) (HBl.out) (by have := Hp.out.2.2; have := Hln.out.2; have := HIp.out.1; simp; omega) ?_
                  intro v7 w7 ho1 hb1 hg1 hat1
                  have HX3 := Aside0.mk (show OwI w7 w14c.heap.size v7 wd from ho1)
                  have HB7 := Aside0.mk hb1
                  have HRl := Aside0.mk (show RdV w7 (.slice (some ⟨gl, 0, none⟩) 1 1) [f] from rdV_lit (l := [f]) (blk_grown HL.out hg1 (by simp [Value.ownBlock])) rfl (by simp))
                  clear ho1 hb1 hg1 hat1
                  refine hK.out _ _ ?_ (fun hHeld => ?_)
                  · exact ⟨bel_cell (HB7.out) d2, pw_cell_below (HB7.out) hx⟩
                  clear hK K
                  try simp only [Act.put, List.setIfInBounds_toArray, List.set_cons_zero, List.set_cons_succ]
                  refine wpAnyH_ready (rs := [10]) (by kernel_rfl) (by simp) ?_
                  refine (AllReadyH.cons (o := _) (List.getElem?_toArray.trans rfl) (fun K hK => ?_) AllReadyH.nil)
                  refine app_stepB (wb := w14c) (by rfl) _ _ (by rfl) _ _ wd [f] (by rfl) (by rfl) HX3.out HRl.out (HB7.out) (by have := Hp.out.2.2; have := Hln.out.2; have := HIp.out.1; simp; omega) ?_
                  intro v8 w8 ho1 hb1 hg1 hat1
                  obtain ⟨dA, dc, hv8, hv8a, hv8b⟩ := ho1.rd
                  clear hv8a hv8b
                  generalize (wd ++ [f]).length = dn at hv8
                  subst hv8
                  have HX8 := Aside0.mk ho1
                  have HB8 := Aside0.mk hb1
                  clear ho1 hb1 hg1 hat1
                  refine hK.out _ _ ?_ (fun hHeld => ?_)
                  · exact ⟨bel_cell (HB8.out) d2, pw_cell_below (HB8.out) hx⟩
                  clear hK K
                  try simp only [Act.put, List.setIfInBounds_toArray, List.set_cons_zero, List.set_cons_succ]
                  refine wpAnyH_take (i := 11) (oi := _) (v := ?_) (List.getElem?_toArray.trans rfl) (by kernel_rfl) (by kernel_rfl) (by kernel_rfl) (fun _ _ _ h => h) (Or.inl ⟨by rfl, ?_⟩) (by assumption) ?_
                  rotate_left
                  · intro w hSw; (try dsimp only at hSw); go_simp <;> with_reducible rfl
                  try simp only [Act.put, List.setIfInBounds_toArray, List.set_cons_zero, List.set_cons_succ]
                  refine wpAnyH_ready (rs := [12]) (by kernel_rfl) (by simp) ?_
                  refine (AllReadyH.cons (o := _) (List.getElem?_toArray.trans rfl) (fun K hK => ?_) AllReadyH.nil)
                  have HQ8 := Aside0.mk (Ow.blk_below HQ.out.1 HB8.out)
                  have hz2 := blk_frozen HQ8.out 2
                  have hc2 : w8.cell? ⟨pq, 2, none⟩ = some (.slice none 0 0) := blk_cellD HQ8.out 2 _ rfl
                  go_simp
                  obtain ⟨w15, hw15⟩ : ∃ z, w8.setCell ⟨pq, 2, none⟩ (.slice dA dn dc) = z := ⟨_, rfl⟩
                  have hC15 : Chg (fun k => k = pq) w8 w15 := by rw [← hw15]; exact Chg.setCell w8 (F := fun k => k = pq) (p := ⟨pq, 2, none⟩) rfl _
                  have HQ15 := Aside0.mk (show w15.heap[pq]? = some (.cells #[.slice aA an ac, .slice bA bn bc, .slice dA dn dc] 110 (0, 0)) by rw [← hw15]; have := blk_set HQ8.out 2 (.slice dA dn dc); simpa using this)
                  have HC15 := Aside0.mk (show Chg (fun k => k = pq) w14c w15 from ((Chg.of_below HB8.out _).then_ hC15 (fun k hk => .inl hk)))
                  have HD15 := Aside0.mk (show Stay (fun k => k < wr.heap.size ∨ k = pq) w15 (.slice dA dn dc) (wd ++ [f]) from (Stay.of_own (F := fun k => k < wr.heap.size ∨ k = pq) (OwF.of_own (F := fun k => w14c.heap.size ≤ k) HX8.out (fun k h _ => h)) (fun k hk hd => by have h1 := blk_lt HQ.out.1; have h2 := HB14.out.size; omega)).next (hC15.mono (fun k _ hk => .inr hk)) (fun k hk => .inl hk))
                  simp only [hw15]
                  have d2w : w15.cell? ⟨pp, 2, none⟩ = some (.slice zA zn zc) := pw_cell_below (chg_own HB14.out (fun k (hk : k = pq) => by rw [hk]; exact HQ.out.2) HC15.out) e2
                  have hxw : w15.cell? (ad3.add k) = some (.int .i64 f) := pw_cell_below (chg_own HB14.out (fun k (hk : k = pq) => by rw [hk]; exact HQ.out.2) HC15.out) hx0
                  clear hw15 hC15 hz2 hc2
                  refine hK.out _ _ ?_ (fun hHeld => ?_)
                  · exact ⟨d2w, hxw⟩
                  clear hK K
                  try simp only [Act.put, List.setIfInBounds_toArray, List.set_cons_zero, List.set_cons_succ]
                  refine wpAnyH_done (by kernel_rfl) ?_ _
                  clear d2w hxw
                  go_wp2_with fail
                  go_meet
                  case rel => exact ⟨dA, dn, dc, HQ15, HD15, HC15⟩
              ·
                go_simp
                obtain ⟨gl, hgl⟩ : ∃ b, w14c.heap.size = b := ⟨_, rfl⟩
                obtain ⟨wl, hwl⟩ : ∃ z, (w14c.alloc (.cells #[.int .i64 f] 3)).drew = z := ⟨_, rfl⟩
                have HL := Aside0.mk (show wl.heap[gl]? = some (.cells #[.int .i64 f] 3 (0, 0)) by rw [← hwl, ← hgl]; exact heap_alloc_new w14c _)
                have HBl := Aside0.mk (show Below w14c.heap.size w14c wl by rw [← hwl]; exact below_drew (below_alloc (Below.refl _ _) _))
                have HRl := Aside0.mk (show RdV wl (.slice (some ⟨gl, 0, none⟩) 1 1) [f] from rdV_lit (l := [f]) HL.out rfl (by simp))
                simp only [hwl]
                try simp only [hgl]
                clear hgl hwl
                refine hK.out _ _ ?_ (fun hHeld => ?_)
                · exact ⟨bel_cell (HBl.out) d2, pw_cell_below (HBl.out) hx⟩
                clear hK K
                try simp only [Act.put, List.setIfInBounds_toArray, List.set_cons_zero, List.set_cons_succ]
                refine wpAnyH_ready (rs := [1]) (by kernel_rfl) (by simp) ?_
                refine (AllReadyH.cons (o := _) (List.getElem?_toArray.trans rfl) (fun K hK => ?_) AllReadyH.nil)
                have hc2 : wl.cell? ⟨pq, 2, none⟩ = some (.slice none 0 0) := bel_cell (HBl.out) c2'
                go_simp
                clear hc2
                refine hK.out _ _ ?_ (fun hHeld => ?_)
                · exact ⟨bel_cell (HBl.out) d2, pw_cell_below (HBl.out) hx⟩
                clear hK K
                try simp only [Act.put, List.setIfInBounds_toArray, List.set_cons_zero, List.set_cons_succ]
                refine wpAnyH_ready (rs := [4]) (by kernel_rfl) (by simp) ?_
                refine (AllReadyH.cons (o := _) (List.getElem?_toArray.trans rfl) (fun K hK => ?_) AllReadyH.nil)
                refine app_stepB (wb := w14c) (by rfl) _ _ (by rfl) _ _ [] wd (by rfl) (by rfl) (OwI.nil _ _) (HZ.out _ (HBl.out)) (HBl.out) (by have := Hp.out.2.2; have := Hln.out.2; have := HIp.out.1; simp; omega) ?_
                intro v7 w7 ho1 hb1 hg1 hat1
                have HX3 := Aside0.mk (show OwI w7 w14c.heap.size v7 wd from ho1)
                have HB7 := Aside0.mk hb1
                have HRl := Aside0.mk (show RdV w7 (.slice (some ⟨gl, 0, none⟩) 1 1) [f] from rdV_lit (l := [f]) (blk_grown HL.out hg1 (by simp [Value.ownBlock])) rfl (by simp))
                clear ho1 hb1 hg1 hat1
                refine hK.out _ _ ?_ (fun hHeld => ?_)
                · exact ⟨bel_cell (HB7.out) d2, pw_cell_below (HB7.out) hx⟩
                clear hK K
                try simp only [Act.put, List.setIfInBounds_toArray, List.set_cons_zero, List.set_cons_succ]
                refine wpAnyH_ready (rs := [10]) (by kernel_rfl) (by simp) ?_
                refine (AllReadyH.cons (o := _) (List.getElem?_toArray.trans rfl) (fun K hK => ?_) AllReadyH.nil)
                refine app_stepB (wb := w14c) (by rfl) _ _ (by rfl) _ _ wd [f] (by rfl) (by rfl) HX3.out HRl.out (HB7.out) (by have := Hp.out.2.2; have := Hln.out.2; have := HIp.out.1; simp; omega) ?_
                intro v8 w8 ho1 hb1 hg1 hat1
                obtain ⟨dA, dc, hv8, hv8a, hv8b⟩ := ho1.rd
                clear hv8a hv8b
                generalize (wd ++ [f]).length = dn at hv8
                subst hv8
                have HX8 := Aside0.mk ho1
                have HB8 := Aside0.mk hb1
                clear ho1 hb1 hg1 hat1
                refine hK.out _ _ ?_ (fun hHeld => ?_)
                · exact ⟨bel_cell (HB8.out) d2, pw_cell_below (HB8.out) hx⟩
                clear hK K
                try simp only [Act.put, List.setIfInBounds_toArray, List.set_cons_zero, List.set_cons_succ]
                refine wpAnyH_take (i := 11) (oi := _) (v := ?_) (List.getElem?_toArray.trans rfl) (by kernel_rfl) (by kernel_rfl) (by kernel_rfl) (fun _ _ _ h => h) (Or.inl ⟨by rfl, ?_⟩) (by assumption) ?_
                rotate_left
                · intro w hSw; (try dsimp only at hSw); go_simp <;> with_reducible rfl
                try simp only [Act.put, List.setIfInBounds_toArray, List.set_cons_zero, List.set_cons_succ]
                refine wpAnyH_ready (rs := [12]) (by kernel_rfl) (by simp) ?_
                refine (AllReadyH.cons (o := _) (List.getElem?_toArray.trans rfl) (fun K hK => ?_) AllReadyH.nil)
                have HQ8 := Aside0.mk (Ow.blk_below HQ.out.1 HB8.out)
                have hz2 := blk_frozen HQ8.out 2
                have hc2 : w8.cell? ⟨pq, 2, none⟩ = some (.slice none 0 0) := blk_cellD HQ8.out 2 _ rfl
                go_simp
                obtain ⟨w15, hw15⟩ : ∃ z, w8.setCell ⟨pq, 2, none⟩ (.slice dA dn dc) = z := ⟨_, rfl⟩
                have hC15 : Chg (fun k => k = pq) w8 w15 := by rw [← hw15]; exact Chg.setCell w8 (F := fun k => k = pq) (p := ⟨pq, 2, none⟩) rfl _
                have HQ15 := Aside0.mk (show w15.heap[pq]? = some (.cells #[.slice aA an ac, .slice bA bn bc, .slice dA dn dc] 110 (0, 0)) by rw [← hw15]; have := blk_set HQ8.out 2 (.slice dA dn dc); simpa using this)
                have HC15 := Aside0.mk (show Chg (fun k => k = pq) w14c w15 from ((Chg.of_below HB8.out _).then_ hC15 (fun k hk => .inl hk)))
                have HD15 := Aside0.mk (show Stay (fun k => k < wr.heap.size ∨ k = pq) w15 (.slice dA dn dc) (wd ++ [f]) from (Stay.of_own (F := fun k => k < wr.heap.size ∨ k = pq) (OwF.of_own (F := fun k => w14c.heap.size ≤ k) HX8.out (fun k h _ => h)) (fun k hk hd => by have h1 := blk_lt HQ.out.1; have h2 := HB14.out.size; omega)).next (hC15.mono (fun k _ hk => .inr hk)) (fun k hk => .inl hk))
                simp only [hw15]
                have d2w : w15.cell? ⟨pp, 2, none⟩ = some (.slice zA zn zc) := pw_cell_below (chg_own HB14.out (fun k (hk : k = pq) => by rw [hk]; exact HQ.out.2) HC15.out) e2
                have hxw : w15.cell? (ad3.add k) = some (.int .i64 f) := pw_cell_below (chg_own HB14.out (fun k (hk : k = pq) => by rw [hk]; exact HQ.out.2) HC15.out) hx0
                clear hw15 hC15 hz2 hc2
                refine hK.out _ _ ?_ (fun hHeld => ?_)
                · exact ⟨d2w, hxw⟩
                clear hK K
                try simp only [Act.put, List.setIfInBounds_toArray, List.set_cons_zero, List.set_cons_succ]
                refine wpAnyH_done (by kernel_rfl) ?_ _
                clear d2w hxw
                go_wp2_with fail
                go_meet
                case rel => exact ⟨dA, dn, dc, HQ15, HD15, HC15⟩
            case rest =>
              obtain ⟨dA, dn, dc, HQv, HDv, HCv⟩ := hcut
              have HBv := Aside0.mk (show Below wr.heap.size wr wc from chg_own HB14.out (fun k (hk : k = pq) => by rw [hk]; exact HQ.out.2) HCv.out)
              have hHX : Stay (fun k => k < wr.heap.size ∨ k = pq) wc (.slice aA an ac) ta ∧ Stay (fun k => k < wr.heap.size ∨ k = pq) wc (.slice bA bn bc) tb := ⟨HX.out.1.next (HCv.out.mono (fun k _ hk => .inr hk)) (fun k hk => .inl hk), HX.out.2.next (HCv.out.mono (fun k _ hk => .inr hk)) (fun k hk => .inl hk)⟩
              have HXv := Aside0.mk hHX
              have p0 : wc.cell? ⟨pq, 0, none⟩ = some (.slice aA an ac) := blk_cellD HQv.out 0 _ rfl
              have p1 : wc.cell? ⟨pq, 1, none⟩ = some (.slice bA bn bc) := blk_cellD HQv.out 1 _ rfl
              have p2 : wc.cell? ⟨pq, 2, none⟩ = some (.slice dA dn dc) := blk_cellD HQv.out 2 _ rfl
              have HMt := Aside0.mk (fun (W' : World) (hb : Below wc.heap.size wc W') => met_any (.slice AV ln cV) Q aA bA dA an ac bn bc dn dc ta tb W' ((HV.out.toQ.below HBv.out).below hb) (HXv.out.1.rd.below hb) (HXv.out.2.rd.below hb) (by have := HP.out.len8 (by rw [← Hn.out.1]; exact H.out.2.2.2.2); omega))
              obtain ⟨Bm, hBm⟩ : ∃ B, decide ((ta, tb) ∈ bothP Q) = B := ⟨_, rfl⟩
              rw [hBm] at HMt
              have HBm := Aside0.mk hBm
              clear hHX HX HQ HB14 hx hx0 d2 e2 c2' HZ hBm HCv
              go_wp2_with fail
              refine (HMt.out _ (Below.refl _ _)).mono ?_
              rintro e w16 ⟨rfl, r1⟩
              have HB16 := Aside0.mk (bel_trans HBv.out r1)
              have HX16 := Aside0.mk (show Stay (fun k => k < wr.heap.size ∨ k = pq) w16 (.slice aA an ac) ta ∧ Stay (fun k => k < wr.heap.size ∨ k = pq) w16 (.slice bA bn bc) tb ∧ Stay (fun k => k < wr.heap.size ∨ k = pq) w16 (.slice dA dn dc) (wd ++ [f]) from ⟨HXv.out.1.below r1, HXv.out.2.below r1, HDv.out.below r1⟩)
              have p0 : w16.cell? ⟨pq, 0, none⟩ = some (.slice aA an ac) := bel_cell r1 p0
              have p1 : w16.cell? ⟨pq, 1, none⟩ = some (.slice bA bn bc) := bel_cell r1 p1
              have p2 : w16.cell? ⟨pq, 2, none⟩ = some (.slice dA dn dc) := bel_cell r1 p2
              clear r1 HMt HXv HDv HQv
              cases Bm with
              | true =>
                have hmem : (nextG E f pa, nextG E f pb) ∈ bothP Q := by rw [Ht.out.1, Ht.out.2]; exact of_decide_eq_true HBm.out
                have HI9 := Aside0.mk (bfs_same HI.out HIp.out Hk.out.2.1 Hk.out.2.2 hmem)
                have HV9 := Aside0.mk (HV.out.below HB16.out)
                have HVf9 := Aside0.mk (HVf.out.below HB16.out)
                have HSt9 := Aside0.mk (And.intro (HSt.out.1.below HB16.out) (And.intro (HSt.out.2.1.below HB16.out) (HSt.out.2.2.below HB16.out)))
                have Hpb9 := Aside0.mk (And.intro (Ow.blk_below Hpb.out.1 HB16.out) Hpb.out.2)
                have HF9 := Aside0.mk (fun k (hk : G k) => (show W.heap.size ≤ k ∧ k < w16.heap.size from ⟨(HF.out k hk).1, by have := (HF.out k hk).2; have := HB16.out.size; omega⟩))
                have HB9 := Aside0.mk (bel_trans HB.out HB16.out)
                have Hb9 := Aside0.mk (Ow.blk_below Hb.out HB16.out)
                clear hmem
                go_wp2_with fail
                go_roundw
                case rel => exact ⟨k + 1, G, Q, by go_num, Hk.out.1, HV9, HI9, HP, HIp, HVf9, HSt9, Hpb9, HF9, HB9, Hb9⟩
                case measure => have := Hk.out.1; simp [intOf]; omega
              | false =>
                have hmem : (nextG E f pa, nextG E f pb) ∉ bothP Q := by rw [Ht.out.1, Ht.out.2]; exact of_decide_eq_false HBm.out
                have hnew := bfs_more HI.out HIp.out Hk.out.2.1 Hk.out.2.2
                have hpi := HP.out.snoc (wd := wd ++ [f]) (sm_next (by rw [← Hn.out.1]; exact H.out.2.2.2.1) f pa) (sm_next (by rw [← Hn.out.1]; exact H.out.2.2.2.1) f pb) hmem
                rw [Ht.out.1, Ht.out.2] at hnew hpi
                have HI9 := Aside0.mk hnew
                have HP9 := Aside0.mk hpi
                have HIp9 := Aside0.mk (show i < (Q ++ [(ta, tb, wd ++ [f])]).length ∧ (Q ++ [(ta, tb, wd ++ [f])]).getD i noP = (pa, pb, wd) from ⟨by have := HIp.out.1; simp; omega, by rw [getD_old Q _ noP HIp.out.1]; exact HIp.out.2⟩)
                obtain ⟨hs, r1, r2, r3⟩ := HV.out.below HB16.out
                obtain ⟨Wa, hWa⟩ : ∃ Wa, w16.alloc (.cells #[.slice aA an ac, .slice bA bn bc, .slice dA dn dc] 110) = Wa := ⟨_, rfl⟩
                have Ba : Below w16.heap.size w16 Wa := by rw [← hWa]; exact below_alloc (Below.refl _ _) _
                have ca : Wa.heap[w16.heap.size]? = some (.cells #[encH (aA, an, ac), encH (bA, bn, bc), encH (dA, dn, dc)] 110 (0, 0)) := by rw [← hWa]; exact heap_alloc_new _ _
                have HRa := Aside0.mk (Kd.R_below r1 Ba)
                have HCa := Aside0.mk ca
                have HSa := Aside0.mk (And.intro r2 (fun j (hj : j < Q.length) => And.intro ((r3 j hj).1.below Ba) (And.intro ((r3 j hj).2.1.below Ba) ((r3 j hj).2.2.below Ba))))
                have HX16 := Aside0.mk (And.intro (HX16.out.1.below Ba) (And.intro (HX16.out.2.1.below Ba) (HX16.out.2.2.below Ba)))
                have HB16 := Aside0.mk (bel_trans HB16.out Ba)
                have HGs := Aside0.mk (fun (k : Nat) (hk : G k) => (show k < wr.heap.size ∨ k = pq from .inl (HF.out k hk).2))
                clear hmem hnew hpi r1 r2 r3 Ba ca
                go_wp2_with (first
                  | (at_builtin; refine appT (G := G) rfl _ _ rfl _ hs ((aA, an, ac), (bA, bn, bc), (dA, dn, dc)) _ (by rfl) (by rfl) HRa.out HCa.out (by have := HSa.out.1; have := Hln.out.2; have := HP.out.len8 (by rw [← Hn.out.1]; exact H.out.2.2.2.2); omega) ?_; intro v3 w3 ho1 hg1 hc1)
                  | fail)
                have HV9 := Aside0.mk (show OwQ w3 (ext G Wa w3) v3 (Q ++ [(ta, tb, wd ++ [f])]) from OwQ.snoc (x := ((aA, an, ac), (bA, bn, bc), (dA, dn, dc))) HSa.out.1 HSa.out.2 ⟨HX16.out.1.next (Chg.refl _ _) (fun k hk => .inl (HGs.out k hk)), HX16.out.2.1.next (Chg.refl _ _) (fun k hk => .inl (HGs.out k hk)), HX16.out.2.2.next (Chg.refl _ _) (fun k hk => .inl (HGs.out k hk))⟩ ho1 hc1)
                have hext : ∀ k, ext G Wa w3 k → G k ∨ Wa.heap.size ≤ k := fun k hk => hk.elim .inl (fun h => .inr h.1)
                have HVf9 := Aside0.mk (show Stay (ext G Wa w3) w3 _ fl from (HVf.out.below HB16.out).next hc1 hext)
                have HSt9 := Aside0.mk (show Stay (ext G Wa w3) w3 _ pa ∧ Stay (ext G Wa w3) w3 _ pb ∧ Stay (ext G Wa w3) w3 _ wd from ⟨(HSt.out.1.below HB16.out).next hc1 hext, (HSt.out.2.1.below HB16.out).next hc1 hext, (HSt.out.2.2.below HB16.out).next hc1 hext⟩)
                have Hpb9 := Aside0.mk (show w3.heap[pp]? = some (.cells #[.slice xA xn xc, .slice yA yn yc, .slice zA zn zc] 110 (0, 0)) ∧ ¬ ext G Wa w3 pp from ⟨hc1.blk (Ow.blk_below Hpb.out.1 HB16.out) Hpb.out.2, fun hk => hk.elim Hpb.out.2 (fun h => by have h1 := blk_lt Hpb.out.1; have h2 := HB16.out.size; omega)⟩)
                have HF9 := Aside0.mk (fun k (hk : ext G Wa w3 k) => (show W.heap.size ≤ k ∧ k < w3.heap.size from by
                  have z1 := HB16.out.size
                  have z2 := hc1.size
                  have z3 := HB.out.size
                  exact hk.elim (fun h => ⟨(HF.out k h).1, by have := (HF.out k h).2; omega⟩) (fun h => ⟨by omega, h.2⟩)))
                have HB9 := Aside0.mk (show Below W.heap.size W w3 from ((Chg.of_below (bel_trans HB.out HB16.out) (fun _ => False)).then_ hc1 (fun k hk => .inr (HF.out k hk).1)).below (Nat.le_refl _) (fun k hk => hk.elim))
                have Hb9 := Aside0.mk (show w3.heap[g]? = some (.cells #[.slice A nT c, .slice A2 nE c2] 25 (0, 0)) from Ow.blk_below Hgw.out HB9.out)
                clear ho1 hg1 hc1 hext hWa
                go_wp2_with fail
                go_roundw
                case rel => exact ⟨k + 1, _, _, by go_num, Hk.out.1, HV9, HI9, HP9, HIp9, HVf9, HSt9, Hpb9, HF9, HB9, Hb9⟩
                case measure => have := Hk.out.1; simp [intOf]; omega
        · have HNx := Aside0.mk (bfs_next HI.out HIp.out (by rw [Hbo.out.1]; exact Hnf.out.2.1) (by
            rcases Nat.lt_or_ge k nf with h1 | h1
            · refine .inr ?_
              rw [Hbo.out.1]
              exact List.eq_nil_of_length_eq_zero (by rw [Hbo.out.2.1]; omega)
            · exact .inl (by rw [Hnf.out.1]; exact h1)) HTy.out)
          have Hi9 := Aside0.mk (show i + 1 ≤ Q.length from HIp.out.1)
          have Hi2 := Aside0.mk (show i < ln by rw [← Hln.out.1]; exact HIp.out.1)
          have HV9 := HV
          have Hlq := Aside0.mk Hln.out.1
          by_cases hkn : k < nf
          · have hnb0 : nb = 0 := by omega
            have hnb : decide ((k : Int) < (nf : Int)) = true := decide_eq_true (by omega)
            have hnc : decide (k < nf) = true := decide_eq_true hkn
            subst hnb0
            clear hgo
            go_wp2_with fail
            go_roundw
            case rel => exact ⟨i + 1, G, Q, by go_num, Hi9, HV9, HNx, HP, HF, HB, Hb⟩
            case measure => have h1 := Hi2.out; have h2 := Hln.out.2; simp [intOf]; omega
          · have hnb : decide ((k : Int) < (nf : Int)) = false := decide_eq_false (by omega)
            have hnc : decide (k < nf) = false := decide_eq_false hkn
            clear hgo
            go_wp2_with fail
            go_roundw
            case rel => exact ⟨i + 1, G, Q, by go_num, Hi9, HV9, HNx, HP, HF, HB, Hb⟩
            case measure => have h1 := Hi2.out; have h2 := Hln.out.2; simp [intOf]; omega
    · have hnb : decide ((i : Int) < (ln : Int)) = false := decide_eq_false (by omega)
      have hnc : decide (i < ln) = false := decide_eq_false hin
      have hnone : ∀ v, ¬ Df T E [o] [x] v := by
        have h := HI.out
        rw [show i = P.length by have := Hi.out; have := Hln.out.1; omega] at h
        exact h.none
      have HE := Aside0.mk (show RaSaid w T E o x (.returned (.tuple #[.slice none 0 0, .bool false])) wr from ⟨bel_trans HBW.out HB.out, .inr ⟨rfl, hnone⟩⟩)
      clear hin hnone
      go_wp2_with fail
      go_ret2
      exact HE.out

end Go.Proofs.YtkpadjhdneiniaaGreatDoor.Am
end
