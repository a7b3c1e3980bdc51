/- intern.Table: what it holds; New, Len, Id. -/
import Derived.Test.YtmaoadlighjkpaaIa
import Derived.Test.YtmaoadlighjkpaaQd
import Derived.Test.YtmaoadlighjkpaaCc
namespace Go.Proofs.Ytmaoadlighjkpaa.In
open Go.RowKit Go.Proofs.YtmaoadlighjkpaaW.PrintWords Go.Proofs.YtmaoadlighjkpaaW.PrintLast Go.Proofs.YtmaoadlighjkpaaW.PrintMore
open Go.Proofs.Ytmaoadlighjkpaa.Base Go.Proofs.Ytmaoadlighjkpaa.Map Go.Proofs.Ytmaoadlighjkpaa.Ca Go.Proofs.Ytmaoadlighjkpaa.Qu Go.Maps
set_option linter.unusedVariables false

section
variable {P : Program} {k : TypeId} {w : World} {ops : Array Oper} {o : Oper} {a : Act} {Q : Exit → Act → World → Prop} {Kc : Act → World → Prop}
theorem store_step (hw : Region.wanted o (yielded ops a.tmps) = true) (m x v : Operand) (t e : TypeId) (hop : o.op = Op.mapUpdate t m x v) {b n : Nat} {f : Lit → Option Value} (hM : MapP P k w b f n) (K : Keyed P k) (ht : P.underlying t = some (.map k e)) (hn : n < maxLen)
    (hm : a.eval m = .map (some b)) {key val : Value} (hx : a.eval x = key) (hv : a.eval v = val) {kl : Lit} (hkey : keyOf P k key = some kl)
    (hK : ∀ w', MapP P k w' b (upd f kl (some val)) (if (f kl).isSome then n else n + 1) → w.grownBy w' (some b) → Kc (a.put o.dst undef) w') :
    if Region.wanted o (yielded ops a.tmps) = true then Oper.wp P o a w Kc Q else Kc (a.put o.dst undef) w := by
  rw [if_pos hw]
  obtain ⟨w', hrun, r1, r2⟩ := hM.store (val := val) K ht hn hkey
  unfold Oper.wp
  simp [execOp, hop, hm, hx, hv, hrun, Result.andThen]
  exact hK w' r1 r2
end

theorem chg_cell {F : Nat → Prop} {w w1 : World} {b o : Nat} {v : Value} (h : Chg F w w1) (hn : ¬ F b) (hc : w.cell? ⟨b, o, none⟩ = some v) : w1.cell? ⟨b, o, none⟩ = some v := by
  have hl := block_lt_of_cell hc
  have e := h.block b hl hn
  unfold World.cell? at hc ⊢
  rw [e]; exact hc
@[simp] theorem chg_drew {F : Nat → Prop} {w w1 : World} (h : Chg F w w1) : Chg F w w1.drew := h.andBelow (below_drew (Below.refl _ _))
@[simp] theorem chg_drewN {F : Nat → Prop} {w w1 : World} (h : Chg F w w1) (n : Nat) : Chg F w (w1.drewN n) := h.andBelow (pw_below_drewN (Below.refl _ _) n)

/-- a tuple in a row -/
def kT : Kd (List Int) where
  sz := 9
  E := []
  K := fun _ ns cs => cs = tupC ns ∧ tOk ns
  M := fun _ _ _ ns cs => cs = tupC ns ∧ tOk ns
  K_len := fun h => by rw [h.1]; exact tupC_len _
  K_one := fun h u hu => by rw [h.1] at hu; exact nums_one _ u hu
  K_below := fun _ h => h
  K_of_M := fun h => h
  M_mono := fun _ h => h
  M_bound := fun h => h
  M_move := fun _ h => h
  M_lower := fun _ h => h

section
variable {ops : Array Oper} {o : Oper} {a : Act} {Q : Exit → Act → World → Prop} {Kc : Act → World → Prop}
theorem tupApp_step {W : World} (hw : Region.wanted o (yielded ops a.tmps) = true) (s x : Operand)
    (ho : o.op = .call { callee := .builtin .append, args := #[s, x], argTypes := #[68, 68] }) (v : Value) (F : Nat → Prop) (tl : List (List Int)) (ns : List Int) (b : Nat) (cs : Array Value)
    (hs : a.eval s = v) (hx : a.eval x = .slice (some ⟨b, 0, none⟩) 1 1) (HS : Kd.R kT 122 W 0 F v tl) (hb : W.heap[b]? = some (.cells cs 122 (0, 0))) (hcs : (tupC ns).toArray = cs) (hok : tOk ns) (hl : tl.length ≤ 1000000)
    (h : ∀ v1 w1, Kd.R kT 122 w1 0 (ext F W w1) v1 (tl ++ [ns]) → Chg F W w1 → W.grownBy w1 v.ownBlock → Kc (a.put o.dst v1) w1) :
    if Region.wanted o (yielded ops a.tmps) = true then Oper.wp Try.prog o a W Kc Q else Kc (a.put o.dst undef) W := by
  subst hcs
  have HS' : Kd.R kT 122 W 0 (fun k => F k ∨ W.heap.size ≤ k) v tl := Kd.R_mono HS (fun k hk => .inl hk)
  refine Kd.R_append_rows_step kT (Rr := fun ns cs => cs = tupC ns ∧ tOk ns) (w0 := W) 0 hw s x 68 122 _ 72 ho Try.underlying68 info122 rfl (by decide) (by decide) v tl [ns] (some ⟨b, 0, none⟩) 1 1 (fun k => F k ∨ W.heap.size ≤ k) (fun _ => False) hs hx HS'
    ⟨rfl, by omega, fun _ => ⟨_, rfl, fun j p hj => ⟨tupC ns, tupC_len ns, ?_, fun i u hu => ?_⟩⟩⟩ (fun _ _ hk => hk) (fun _ hk => hk.elim) (fun k hk => .inr hk) (Below.refl _ _) (Nat.zero_le _) (by omega) ?_
  · have : p = ns := by
      have : j = 0 := by have := (List.getElem?_eq_some_iff.1 hj).1; simp at this; omega
      subst this; simpa using hj.symm
    subst this; exact ⟨rfl, hok⟩
  · have : j = 0 := by have := (List.getElem?_eq_some_iff.1 hj).1; simp at this; omega
    subst this
    have hadd : (⟨b, 0, none⟩ : Addr).add (0 * kT.sz + i) = ⟨b, i, none⟩ := by unfold Addr.add; split <;> simp_all
    rw [hadd, cell_of_row W b i _ 122 (0, 0) hb]
    simpa using hu
  · intro v1 w1 hR hB hg hat
    exact h v1 w1 (Kd.R_mono (Kd.R_bound hR) (fun k hk => hk.1.elim .inl (fun h => .inr ⟨h, hk.2.2.1⟩))) (Chg.of_grown hg (fun k hk => HS.1 k hk)) hg
end

/-- a row stands when a map has been written -/
theorem R_off {α : Type} {d : Kd α} {e : Nat} {w w1 : World} {F : Nat → Prop} {v : Value} {xs : List α} {m : Nat} {es : Array MapEntry} {c : Nat} (h : Kd.R d e w 0 F v xs) (hC : Chg (fun k => k = m) w w1) (hm : w.heap[m]? = some (.map es c)) : Kd.R d e w1 0 F v xs :=
  Kd.R_mono (Kd.R_step (Kd.R_bound h) (fun k hk hlt => hC.block k hlt (fun e => by obtain ⟨_, _, _, q, _, cells, hc⟩ := hk; subst e; rw [hm] at hc; cases hc))) (fun k hk => hk.1)
/-- a map stands when a row has been written -/
theorem MapP_off {k : TypeId} {w w1 : World} {b n : Nat} {f : Lit → Option Value} {α : Type} {d : Kd α} {e base : Nat} {F : Nat → Prop} {v : Value} {xs : List α} (h : MapP Try.prog k w b f n) (hv : Kd.R d e w base F v xs) (hg : w.grownBy w1 v.ownBlock) : MapP Try.prog k w1 b f n := by
  obtain ⟨es, c, hb⟩ := h.at_block
  refine h.move (hg.block b h.lt (fun he => ?_))
  obtain ⟨inner, ho⟩ := Kd.R_own hv
  obtain ⟨cells, hc⟩ := own_typed ho b he.symm
  rw [hb] at hc; cases hc

/-- where x stands first (the list's length, if nowhere) -/
def place {α : Type} [DecidableEq α] (l : List α) (x : α) : Nat := l.idxOf x
theorem place_new {α : Type} [DecidableEq α] {l : List α} {x : α} (h : x ∉ l) : place l x = l.length := List.idxOf_eq_length h
theorem place_lt {α : Type} [DecidableEq α] {l : List α} {x : α} (h : x ∈ l) : place l x < l.length := List.idxOf_lt_length_of_mem h
/-- a map that gives each of a list's its place -/
def Dict {α : Type} [DecidableEq α] (ok : α → Prop) (lit : α → Lit) (f : Lit → Option Value) (l : List α) : Prop :=
  ∀ x, ok x → f (lit x) = if x ∈ l then some (.int .i64 (place l x : Int)) else none
theorem Dict.nil {α : Type} [DecidableEq α] (ok : α → Prop) (lit : α → Lit) : Dict ok lit (fun _ => none) [] := fun x _ => by simp
theorem Dict.snoc {α : Type} [DecidableEq α] {ok : α → Prop} {lit : α → Lit} {f : Lit → Option Value} {l : List α} {x : α} (h : Dict ok lit f l) (hinj : ∀ a b, ok a → ok b → lit a = lit b → a = b) (hx : ok x) (hn : x ∉ l) :
    Dict ok lit (upd f (lit x) (some (.int .i64 (l.length : Int)))) (l ++ [x]) := by
  intro y hy
  unfold place
  by_cases e : y = x
  · subst e
    rw [upd_same, if_pos (by simp), List.idxOf_append, if_neg hn]; simp
  · rw [upd_other _ (fun he => e (hinj y x hy hx he)), h y hy]
    unfold place
    by_cases hm : y ∈ l
    · rw [if_pos hm, if_pos (by simp [hm]), List.idxOf_append, if_pos hm]
    · rw [if_neg hm, if_neg (by simp [hm, e])]

def strLit (s : ByteArray) : Lit := .string s.data.toList
def sOk (s : ByteArray) : Prop := s.size ≤ maxLen

/-- The table in block p: its texts, its tuples; F: its blocks. -/
structure TabAt (w : World) (F : Nat → Prop) (p : Nat) (sl : List ByteArray) (tl : List (List Int)) : Prop where
  mk :: (out : ∃ (vt vs : Value) (mw mi : Nat) (fw fi : Lit → Option Value),
    w.heap[p]? = some (.cells #[.map (some mw), vt, .map (some mi), vs] 70 (0, 0)) ∧ Kd.R Kd.string 9 w 0 F vt sl ∧ Kd.R kT 122 w 0 F vs tl ∧
    MapP Try.prog 9 w mw fw sl.length ∧ MapP Try.prog 122 w mi fi tl.length ∧ (F p ∧ F mw ∧ F mi ∧ mw ≠ mi) ∧ Dict sOk strLit fw sl ∧ Dict tOk tupK fi tl)
theorem TabAt.below {w w1 : World} {F : Nat → Prop} {p : Nat} {sl : List ByteArray} {tl : List (List Int)} (h : TabAt w F p sl tl) (hb : Below w.heap.size w w1) : TabAt w1 F p sl tl := by
  obtain ⟨vt, vs, mw, mi, fw, fi, h1, h2, h3, h4, h5, h6⟩ := h
  exact ⟨vt, vs, mw, mi, fw, fi, Qu.blk_below h1 hb, Kd.R_below h2 hb, Kd.R_below h3 hb, h4.below hb, h5.below hb, h6⟩
theorem TabAt.mono {w : World} {F F' : Nat → Prop} {p : Nat} {sl : List ByteArray} {tl : List (List Int)} (h : TabAt w F p sl tl) (hF : ∀ k, F k → F' k) : TabAt w F' p sl tl := by
  obtain ⟨vt, vs, mw, mi, fw, fi, h1, h2, h3, h4, h5, h6, h7⟩ := h
  exact ⟨vt, vs, mw, mi, fw, fi, h1, Kd.R_mono h2 hF, Kd.R_mono h3 hF, h4, h5, ⟨hF _ h6.1, hF _ h6.2.1, hF _ h6.2.2.1, h6.2.2.2⟩, h7⟩

theorem new_tab (w : World) : Calls Try.prog 26 #[] w fun e w' => e = .returned (.pointer (some ⟨w.heap.size + 2, 0, none⟩)) ∧ TabAt w' (fun k => w.heap.size ≤ k ∧ k < w'.heap.size) (w.heap.size + 2) [] [] ∧ Below w.heap.size w w' :=
  (internNew_any w).mono fun e w' ⟨h1, h2⟩ => by
    subst h2
    refine ⟨h1, ⟨.slice none 0 0, .slice none 0 0, w.heap.size, w.heap.size + 1, fun _ => none, fun _ => none, ?_, Kd.R_nil _ _ _ _ _, Kd.R_nil _ _ _ _ _, ?_, ?_, ?_, Dict.nil _ _, Dict.nil _ _⟩, ?_⟩
    · unfold internW; simpa using heap_alloc_new ((w.alloc (.map #[] 0)).alloc (.map #[] 0)) _
    · unfold internW; exact ((MapP.made w Try.prog 9).below (below_alloc (Below.refl _ _) _)).below (below_alloc (Below.refl _ _) _)
    · unfold internW
      have := (MapP.made (w.alloc (.map #[] 0)) Try.prog 122).below (below_alloc (Below.refl _ _) (.cells #[.map (some w.heap.size), .slice none 0 0, .map (some (w.heap.size + 1)), .slice none 0 0] 70))
      simpa using this
    · unfold internW; simp; omega
    · unfold internW; exact below_alloc (below_alloc (below_alloc (Below.refl _ _) _) _) _

set_option maxHeartbeats 1000000 in
set_option maxRecDepth 100000 in
theorem len_tab (p : Nat) (F : Nat → Prop) (sl : List ByteArray) (tl : List (List Int)) (w : World) (h : TabAt w F p sl tl) :
    Calls Try.prog 28 #[.pointer (some ⟨p, 0, none⟩)] w fun e w' => e = .returned (.int .i64 (tl.length : Int)) ∧ w = w' := by
  obtain ⟨vt, vs, mw, mi, fw, fi, hb, _, hs, _⟩ := h
  obtain ⟨A, c, rfl, _⟩ := Kd.R_reads hs
  have c3 : w.cell? ⟨p, 3, none⟩ = some (.slice A tl.length c) := blk_cell hb 3
  clear hb hs
  go_enter Try.func28, Try.ntmps28
  go_wp2
  go_ret
  exact ⟨rfl, rfl⟩
end Go.Proofs.Ytmaoadlighjkpaa.In
