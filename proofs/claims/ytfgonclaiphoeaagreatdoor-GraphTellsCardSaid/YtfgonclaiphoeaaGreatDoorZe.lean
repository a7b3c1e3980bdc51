/- The document's graph: Reach; Minus of a list within another. -/
import Derived.Test.YtfgonclaiphoeaaGreatDoorZd
namespace Go.Proofs.YtfgonclaiphoeaaGreatDoor.Rf
set_option linter.unusedVariables false
open Go.RowKit Go.Proofs.YtfgonclaiphoeaaGreatDoorW.PrintWords Go.Proofs.YtfgonclaiphoeaaGreatDoorW.PrintLast Go.Proofs.YtfgonclaiphoeaaGreatDoorW.PrintMore Go.Maps
open Go.Proofs.YtfgonclaiphoeaaGreatDoor.Base Go.Proofs.YtfgonclaiphoeaaGreatDoor.Map Go.Proofs.YtfgonclaiphoeaaGreatDoor.Sl Go.Proofs.YtfgonclaiphoeaaGreatDoor.Ow Go.Proofs.YtfgonclaiphoeaaGreatDoor.Se Go.Proofs.YtfgonclaiphoeaaGreatDoor.Gr

theorem getD_memI {l : List Int} {i : Nat} (h : i < l.length) : l.getD i 0 ∈ l := by
  rw [List.getD_eq_getElem?_getD, List.getElem?_eq_getElem h]; exact List.getElem_mem h
set_option maxHeartbeats 4000000 in
set_option maxRecDepth 100000 in
theorem minus_none (u v : Value) (a b : List Int) (w : World) (hu : RdV w u a) (hv : RdV w v b) (hs : ∀ x ∈ a, x ∈ b) (hl : a.length ≤ 1000000) :
    Calls Tryz.prog 19 #[u, v] w fun e w' => e = .returned (.slice none 0 0) ∧ Below w.heap.size w w' := by
  obtain ⟨A, c, rfl, hc, hr⟩ := hu
  have HV := Aside0.mk hv
  have HR := Aside0.mk hr
  have HS := Aside0.mk (And.intro hs hl)
  obtain ⟨n, hn⟩ : ∃ n, a.length = n := ⟨_, rfl⟩
  have Hn := Aside0.mk hn
  rw [hn]
  clear hr hv hs hl hc hn
  go_enter Tryz.func19, Tryz.ntmps19
  go_wp2_with fail
  go_loopw [5, 6] (fun V I wr => ∃ i : Nat, I = .int .i64 (i : Int) ∧ i ≤ n ∧ V = .slice none 0 0 ∧ Aside0 (Below w.heap.size w wr)) (fun _ I _ => n - (intOf I).toNat)
  case atStart => exact ⟨0, rfl, Nat.zero_le _, rfl, ⟨Below.refl _ _⟩⟩
  case round =>
    obtain ⟨i, rfl, hi, rfl, HB⟩ := hrel
    by_cases hin : i < n
    · have hnb : decide ((i : Int) < (n : Int)) = true := decide_eq_true (by omega)
      have hnc : decide (i < n) = true := decide_eq_true hin
      have hil : i < a.length := by rw [Hn.out]; exact hin
      obtain ⟨ad, rfl, hx⟩ := (HR.out.below HB.out).at_ (i : Int) (by omega) (by omega)
      have hx : wr.cell? (ad.add i) = some (.int .i64 (a.getD i 0)) := by simpa [rd] using hx
      have hm := HS.out.1 _ (getD_memI hil)
      obtain ⟨x, hxx⟩ : ∃ x, a.getD i 0 = x := ⟨_, rfl⟩
      rw [hxx] at hx hm
      have Hm := Aside0.mk (decide_eq_true hm)
      have i0 : 0 ≤ (i : Int) := by omega
      have i1 : (i : Int) < (n : Int) := by omega
      have i2 : (i : Int) ≤ 1000000 := by have := HS.out.2; omega
      have Hin := Aside0.mk hin
      clear hin hi hil hm hxx
      replace i0 := eq_true i0
      replace i1 := eq_true i1
      go_wp2_with fail
      refine (has_any v b x wr (HV.out.below HB.out)).mono ?_
      rintro e w1 ⟨rfl, r1⟩
      rw [Hm.out]
      have HB1 := Aside0.mk (bel_trans HB.out r1)
      clear r1
      go_wp2_with fail
      go_roundw
      case rel => exact ⟨i + 1, by go_num, Hin.out, rfl, HB1⟩
      case measure => have := Hin.out; simp [intOf]; omega
    · have hnb : decide ((i : Int) < (n : Int)) = false := decide_eq_false (by omega)
      have hnc : decide (i < n) = false := decide_eq_false hin
      obtain rfl : i = n := by omega
      clear hin hi
      go_wp2_with fail
      go_ret
      exact ⟨rfl, HB.out⟩

/-! ref22.Reach, plainly -/
/-- the seeds so far -/
structure Seed (n : Nat) (os : List Int) (i : Nat) (l : List Int) : Prop where
  srt : Srt l
  sub : ∀ x ∈ l, x ∈ os ∧ 0 ≤ x ∧ x < n
  all : ∀ x ∈ os.take i, 0 ≤ x → x < n → x ∈ l
theorem Seed.start (n : Nat) (os : List Int) : Seed n os 0 [] := ⟨List.Pairwise.nil, fun x h => (by cases h), fun x h => (by rw [List.take_zero] at h; cases h)⟩
theorem Seed.more {n : Nat} {os l : List Int} {i : Nat} (h : Seed n os i l) (hi : i < os.length) (h0 : 0 ≤ os.getD i 0) (h1 : os.getD i 0 < n) : Seed n os (i + 1) (ins l (os.getD i 0)) :=
  ⟨srt_ins h.srt _, fun x hx => (mem_ins.1 hx).elim (fun e => e ▸ ⟨getD_memI hi, h0, h1⟩) (h.sub x), fun x hx h2 h3 => by
    rw [take_get os i hi] at hx
    rcases List.mem_append.1 hx with hx | hx
    · exact mem_ins.2 (.inr (h.all x hx h2 h3))
    · rw [List.mem_singleton] at hx; exact mem_ins.2 (.inl hx)⟩
theorem Seed.skip {n : Nat} {os l : List Int} {i : Nat} (h : Seed n os i l) (hi : i < os.length) (h0 : ¬ (0 ≤ os.getD i 0 ∧ os.getD i 0 < n)) : Seed n os (i + 1) l :=
  ⟨h.srt, h.sub, fun x hx h2 h3 => by
    rw [take_get os i hi] at hx
    rcases List.mem_append.1 hx with hx | hx
    · exact h.all x hx h2 h3
    · rw [List.mem_singleton] at hx; subst hx; exact absurd ⟨h2, h3⟩ h0⟩
theorem Seed.len {n : Nat} {os l : List Int} {i : Nat} (h : Seed n os i l) : l.length ≤ n := srt_len h.srt (a := 0) (k := n) (fun x hx => by have := (h.sub x hx).2; omega)
/-- what is reached so far -/
structure RI (n : Nat) (E : List GE) (os l : List Int) : Prop where
  srt : Srt l
  rch : ∀ x ∈ l, Rch n E os x
  all : ∀ x ∈ os, 0 ≤ x → x < n → x ∈ l
theorem Seed.toRI {n : Nat} {E : List GE} {os l : List Int} (h : Seed n os os.length l) : RI n E os l :=
  ⟨h.srt, fun x hx => .base (h.sub x hx).1 (h.sub x hx).2.1 (h.sub x hx).2.2, fun x hx => h.all x (by rw [List.take_length]; exact hx)⟩
theorem RI.len {n : Nat} {E : List GE} {os l : List Int} (h : RI n E os l) : l.length ≤ n := srt_len h.srt (a := 0) (k := n) (fun x hx => by have := (h.rch x hx).lt; omega)
theorem RI.more {n : Nat} {E : List GE} {os l : List Int} (h : RI n E os l) (hR : RightG n E) {a f b : Int} (he : (a, f, b) ∈ E) (ha : a ∈ l) : RI n E os (ins l b) :=
  ⟨srt_ins h.srt _, fun x hx => (mem_ins.1 hx).elim (fun e => by subst e; exact .step (h.rch a ha) he (hR _ he).2.2.1 (hR _ he).2.2.2) (h.rch x), fun x hx h2 h3 => mem_ins.2 (.inr (h.all x hx h2 h3))⟩
theorem RI.done {n : Nat} {E : List GE} {os l : List Int} (h : RI n E os l) (hc : ∀ e ∈ E, e.1 ∈ l → e.2.2 ∈ l) : l = reachG n E os :=
  reachG_of h.srt h.rch h.all fun a ha f b hb _ _ => hc _ hb ha
/-- one round over the edges -/
structure RJ (n : Nat) (E : List GE) (os l0 : List Int) (i : Nat) (again : Bool) (l : List Int) : Prop where
  ri : RI n E os l
  grow : again = true → l0.length < l.length
  same : again = false → l = l0 ∧ ∀ e ∈ E.take i, e.1 ∈ l → e.2.2 ∈ l
theorem RJ.start {n : Nat} {E : List GE} {os l : List Int} (h : RI n E os l) : RJ n E os l 0 false l := ⟨h, fun h => (by cases h), fun _ => ⟨rfl, fun e he => by rw [List.take_zero] at he; cases he⟩⟩
theorem RJ.len0 {n : Nat} {E : List GE} {os l0 l : List Int} {i : Nat} {b : Bool} (h : RJ n E os l0 i b l) : l0.length ≤ l.length := by
  cases b with
  | true => exact Nat.le_of_lt (h.grow rfl)
  | false => rw [(h.same rfl).1]; exact Nat.le_refl _
theorem RJ.skip {n : Nat} {E : List GE} {os l0 l : List Int} {i : Nat} {ag : Bool} (h : RJ n E os l0 i ag l) (hi : i < E.length) {e : GE} (he : E.getD i (0, 0, 0) = e) (hn : e.1 ∈ l → e.2.2 ∈ l) : RJ n E os l0 (i + 1) ag l :=
  ⟨h.ri, h.grow, fun e2 => ⟨(h.same e2).1, fun x hx => by
    rw [← take_snocE hi he] at hx
    rcases List.mem_append.1 hx with hx | hx
    · exact (h.same e2).2 x hx
    · rw [List.mem_singleton] at hx; subst hx; exact hn⟩⟩
theorem RJ.more {n : Nat} {E : List GE} {os l0 l : List Int} {i : Nat} {ag : Bool} (h : RJ n E os l0 i ag l) (hR : RightG n E) (hi : i < E.length) {a f b : Int} (he : E.getD i (0, 0, 0) = (a, f, b)) (ha : a ∈ l) (hb : b ∉ l) : RJ n E os l0 (i + 1) true (ins l b) :=
  ⟨h.ri.more hR (he ▸ getD_mem hi) ha, fun _ => by have := h.len0; rw [ins_len, if_neg hb]; omega, fun e => by cases e⟩
end Go.Proofs.YtfgonclaiphoeaaGreatDoor.Rf
