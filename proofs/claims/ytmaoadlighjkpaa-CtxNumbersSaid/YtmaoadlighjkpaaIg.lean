/- The table's texts: Word. -/
import Derived.Test.YtmaoadlighjkpaaId
import Derived.StringKeys
namespace Go.Proofs.Ytmaoadlighjkpaa.In
open Go.RowKit Go.Proofs.YtmaoadlighjkpaaW.PrintWords Go.Proofs.YtmaoadlighjkpaaW.PrintLast Go.Proofs.YtmaoadlighjkpaaW.PrintMore
open Go.Proofs.Ytmaoadlighjkpaa.Base Go.Proofs.Ytmaoadlighjkpaa.Map Go.Proofs.Ytmaoadlighjkpaa.Ca Go.Proofs.Ytmaoadlighjkpaa.Qu Go.Maps
set_option linter.unusedVariables false

theorem law9 : Keyed Try.prog 9 := string_keyed Try.underlying9
theorem strLit_key {s : ByteArray} (h : sOk s) : keyOf Try.prog 9 (.string s) = some (strLit s) := WideMaps.keyOf_string_mk Try.underlying9 h
theorem strLit_inj {a b : ByteArray} (h : strLit a = strLit b) : a = b := by
  have e : a.data.toList = b.data.toList := by simpa [strLit] using h
  exact ByteArray.ext (Array.toList_inj.1 e)
def wordL {α : Type} [DecidableEq α] (sl : List α) (s : α) : List α := if s ∈ sl then sl else sl ++ [s]
theorem info9 : (Try.prog.info? 9).map (fun i => (i.zero, i.size, i.bytes)) = some (some (.string ⟨#[]⟩), 1, 16) := by kernel_rfl

section
variable {ops : Array Oper} {rest : List Oper} {o : Oper} {a : Act} {Q : Exit → Act → World → Prop}
theorem strApp {W : World} (hgd : o.guard = none) (s x : Operand)
    (ho : o.op = .call { callee := .builtin .append, args := #[s, x], argTypes := #[56, 56] }) (v : Value) (F : Nat → Prop) (sl : List ByteArray) (s0 : ByteArray) (b : Nat)
    (hs : a.eval s = v) (hx : a.eval x = .slice (some ⟨b, 0, none⟩) 1 1) (HS : Kd.R Kd.string 9 W 0 F v sl) (hb : W.cell? ⟨b, 0, none⟩ = some (.string s0)) (hl : sl.length ≤ 1000000)
    (h : ∀ v1 w1, Kd.R Kd.string 9 w1 0 (ext F W w1) v1 (sl ++ [s0]) → Chg F W w1 → W.grownBy w1 v.ownBlock → wpList Try.prog ops Q rest (a.put o.dst v1) w1) :
    wpList Try.prog ops Q (o :: rest) a W := by
  have HS' : Kd.R Kd.string 9 W 0 (fun k => F k ∨ W.heap.size ≤ k) v sl := Kd.R_mono HS (fun k hk => .inl hk)
  refine Kd.R_append_rows Kd.string (Rr := fun s cs => cs = [Value.string s]) (w0 := W) 0 hgd s x 56 9 _ 16 ho Try.underlying56 info9 rfl (by decide) (by decide) v sl [s0] (some ⟨b, 0, none⟩) 1 1 (fun k => F k ∨ W.heap.size ≤ k) (fun _ => False) hs hx HS'
    ⟨rfl, by omega, fun _ => ⟨_, rfl, fun j p hj => ⟨[.string s0], rfl, ?_, fun i u hu => ?_⟩⟩⟩ (fun x cs hk => hk) (fun _ hk => hk.elim) (fun k hk => .inr hk) (Below.refl _ _) (Nat.zero_le _) (by omega) ?_
  · have : p = s0 := by
      have : j = 0 := by have := (List.getElem?_eq_some_iff.1 hj).1; simp at this; omega
      subst this; simpa using hj.symm
    subst this; rfl
  · have : j = 0 := by have := (List.getElem?_eq_some_iff.1 hj).1; simp at this; omega
    subst this
    have hi : i = 0 := by have := (List.getElem?_eq_some_iff.1 hu).1; simp at this; omega
    subst hi
    have hu2 : u = .string s0 := by simpa using hu.symm
    subst hu2
    simpa [Addr.add] using hb
  · intro v1 w1 hR hB hg hat
    exact h v1 w1 (Kd.R_mono (Kd.R_bound hR) (fun k hk => hk.1.elim .inl (fun h => .inr ⟨h, hk.2.2.1⟩))) (Chg.of_grown hg (fun k hk => HS.1 k hk)) hg
end

theorem tab_pushedS {w w2 Wx w3 : World} {F : Nat → Prop} {p mw mi : Nat} {fw fi : Lit → Option Value} {vt vs v3 : Value} {sl : List ByteArray} {tl : List (List Int)} {s : ByteArray} {es : Array MapEntry} {ck : Nat}
    (hb : w.heap[p]? = some (.cells #[.map (some mw), vt, .map (some mi), vs] 70 (0, 0))) (hT : Kd.R Kd.string 9 w 0 F vt sl) (hS : Kd.R kT 122 w 0 F vs tl)
    (hMi : MapP Try.prog 122 w mi fi tl.length) (hmw : w.heap[mw]? = some (.map es ck)) (hF : F p ∧ F mw ∧ F mi ∧ mw ≠ mi) (hDw : Dict sOk strLit fw sl) (hD : Dict tOk tupK fi tl)
    (hC2 : Chg (fun k => k = mw) w w2) (hM2 : MapP Try.prog 9 w2 mw (upd fw (strLit s) (some (.int .i64 (sl.length : Int)))) (sl.length + 1)) (hbx : Below w2.heap.size w2 Wx)
    (hR3 : Kd.R Kd.string 9 w3 0 (ext F Wx w3) v3 (sl ++ [s])) (hC3 : Chg F Wx w3) (hg3 : Wx.grownBy w3 vt.ownBlock) (hok : sOk s) (hn : s ∉ sl) :
    TabAt (w3.setCell ⟨p, 1, none⟩ v3) (ext F w (w3.setCell ⟨p, 1, none⟩ v3)) p (sl ++ [s]) tl ∧ Chg F w (w3.setCell ⟨p, 1, none⟩ v3) := by
  have np : ¬ p = mw := fun e => by rw [e, hmw] at hb; cases hb
  have hb2 := hC2.blk hb np
  have hbxx := Qu.blk_below hb2 hbx
  have hSx := Kd.R_below (R_off hS hC2 hmw) hbx
  have hTx := Kd.R_below (R_off hT hC2 hmw) hbx
  have hb3 := blk_grown hbxx hg3 (Kd.R_ne hTx hbxx (by decide))
  have hS3 := Kd.R_over hSx hTx (fun q hq => by rcases List.mem_cons.1 hq with rfl | hq; decide; cases hq) hg3
  have hS4 := Kd.R_set hS3 hb3 (fun q hq => by rcases List.mem_cons.1 hq with rfl | hq; decide; cases hq) 1 v3
  have hR4 := Kd.R_set hR3 hb3 (fun q hq => by rcases List.mem_cons.1 hq with rfl | hq; decide; cases hq) 1 v3
  have hsz : (w3.setCell ⟨p, 1, none⟩ v3).heap.size = w3.heap.size := by simp [World.setCell]
  have offp : ∀ m n k f, MapP Try.prog k w3 m f n → MapP Try.prog k (w3.setCell ⟨p, 1, none⟩ v3) m f n := fun m n k f h => by
    obtain ⟨es', c', hm'⟩ := h.at_block
    refine h.move (Below.heap_setCell w3 ⟨p, 1, none⟩ v3 m (fun e => ?_))
    have e' : m = p := e
    rw [e', hb3] at hm'; cases hm'
  have hMi4 := offp _ _ _ _ (MapP_off ((hMi.chg hC2 (fun e => hF.2.2.2 e.symm)).below hbx) hTx hg3)
  have hMw4 := offp _ _ _ _ (MapP_off (hM2.below hbx) hTx hg3)
  have hC : Chg F w (w3.setCell ⟨p, 1, none⟩ v3) := by
    have c2 : Chg F w w2 := hC2.mono (F' := F) (fun k _ hk => hk ▸ hF.2.1)
    have c3 := (c2.andBelow hbx).then_ hC3 (fun k hk => .inl hk)
    exact c3.then_ (Chg.setCell w3 (p := ⟨p, 1, none⟩) hF.1 v3) (fun k hk => .inl hk)
  refine ⟨⟨v3, vs, mw, mi, _, fi, blk_set hb3 1 v3, Kd.R_mono hR4 (fun k hk => ?_), Kd.R_mono hS4 (fun k hk => .inl hk), by simpa using hMw4, hMi4, ⟨.inl hF.1, .inl hF.2.1, .inl hF.2.2.1, hF.2.2.2⟩, hDw.snoc (fun a b _ _ => strLit_inj) hok hn, hD⟩, hC⟩
  rcases hk with hk | hk
  · exact .inl hk
  · exact .inr ⟨Nat.le_trans hC2.size (Nat.le_trans hbx.size hk.1), hsz ▸ hk.2⟩

set_option maxHeartbeats 1000000 in
set_option maxRecDepth 100000 in
theorem word_old (p : Nat) (F : Nat → Prop) (sl : List ByteArray) (tl : List (List Int)) (s : ByteArray) (w : World) (h : TabAt w F p sl tl) (hs : sOk s) (hm : s ∈ sl) :
    Calls Try.prog 42 #[.pointer (some ⟨p, 0, none⟩), .string s] w fun e w' => e = .returned (.int .i64 (place sl s : Int)) ∧ w = w' := by
  obtain ⟨vt, vs, mw, mi, fw, fi, hb, _, _, hM, _, _, hD, _⟩ := h
  have c0 := blk_cell hb 0
  have hf := hD s hs
  rw [if_pos hm] at hf
  have hr : (fw (strLit s)).getD (.int .i64 0) = .int .i64 (place sl s : Int) := by rw [hf]; rfl
  have ho : (fw (strLit s)).isSome = true := by rw [hf]; rfl
  have Hf := Aside0.mk hr
  have Ho := Aside0.mk ho
  have Hkey := Aside0.mk (strLit_key hs)
  have hz := zero3 w
  clear hr ho hf hD hb hs
  go_enter Try.func42, Try.ntmps42
  go_wp2_with (first | (at_lookup; refine wp_look_ok rfl _ _ 64 9 3 rfl hM law9 Try.underlying64 hz rfl rfl Hkey.out Hf.out Ho.out ?_))
  go_ret
  exact ⟨rfl, rfl⟩

set_option maxHeartbeats 2000000 in
set_option maxRecDepth 100000 in
theorem word_new (p : Nat) (F : Nat → Prop) (sl : List ByteArray) (tl : List (List Int)) (s : ByteArray) (w : World) (h : TabAt w F p sl tl) (hs : sOk s) (hm : s ∉ sl) (hlen : sl.length ≤ 1000000) :
    Calls Try.prog 42 #[.pointer (some ⟨p, 0, none⟩), .string s] w fun e w' => e = .returned (.int .i64 (sl.length : Int)) ∧ TabAt w' (ext F w w') p (sl ++ [s]) tl ∧ Chg F w w' := by
  obtain ⟨vt, vs, mw, mi, fw, fi, hb, hT, hS, hM, hMi, hFF, hDw, hD⟩ := h
  obtain ⟨es, ck, hmw⟩ := hM.at_block
  obtain ⟨A, c, rfl, _⟩ := Kd.R_reads hT
  have np : ¬ p = mw := fun e => by rw [e, hmw] at hb; cases hb
  have c0 := blk_cell hb 0
  have c1 := blk_cell hb 1
  have hf := hDw s hs
  rw [if_neg hm] at hf
  have hr : (fw (strLit s)).getD (.int .i64 0) = .int .i64 0 := by rw [hf]; rfl
  have ho : (fw (strLit s)).isSome = false := by rw [hf]; rfl
  have hmx : sl.length < maxLen := by unfold maxLen; omega
  have Hf := Aside0.mk hr
  have Ho := Aside0.mk ho
  have Hs := Aside0.mk hs
  have Hkey := Aside0.mk (strLit_key hs)
  have Hb := Aside0.mk hb
  have HT := Aside0.mk hT
  have HS := Aside0.mk hS
  have HMi := Aside0.mk hMi
  have Hmw := Aside0.mk hmw
  have HD := Aside0.mk hD
  have HDw := Aside0.mk hDw
  have Hmm := Aside0.mk hm
  have hz := zero3 w
  clear hr ho hf hD hDw hb hs hT hS hMi hmw hm
  go_enter Try.func42, Try.ntmps42
  go_wp2_with (first | (at_lookup; refine wp_look_ok rfl _ _ 64 9 3 rfl hM law9 Try.underlying64 hz rfl rfl Hkey.out Hf.out Ho.out ?_) | (at_mapUpdate; refine wp_store (val := .int .i64 (sl.length : Int)) rfl _ _ _ 64 9 3 rfl hM law9 Try.underlying64 hmx rfl rfl rfl Hkey.out ?_; intro w2 hM2 hg2; rw [Ho.out] at hM2; have HM2 := Aside0.mk hM2; have hC2 := Aside0.mk (Chg.of_grown (F := fun k => k = mw) hg2 (fun k hk => by cases hk; rfl)); have hb2 := Aside0.mk (hC2.out.blk Hb.out np); have d1 : w2.cell? ⟨p, 1, none⟩ = some (.slice A sl.length c) := blk_cell hb2.out 1; have hTx := Aside0.mk (Kd.R_below (R_off HT.out hC2.out Hmw.out) (below_alloc (Below.refl _ _) (.cells #[.string s] 9))); clear hM2 hg2) | (at_builtin; refine strApp rfl (.tmp 34) (.tmp 36) rfl (.slice A sl.length c) F sl s w2.heap.size rfl rfl hTx.out (by simp) hlen ?_; intro v3 w3 hR3 hC3 hg3; obtain ⟨A3, c3', hv3, _, _⟩ := Kd.R_reads hR3; obtain ⟨n3, hn3⟩ : ∃ n, (sl ++ [s]).length = n := ⟨_, rfl⟩; rw [hn3] at hv3; subst hv3; have hbb := Qu.blk_below hb2.out (below_alloc (Below.refl _ _) (.cells #[.string s] 9)); have hne := Kd.R_ne (g := p) hTx.out hbb (by decide); have hb3 := Aside0.mk (blk_grown hbb hg3 hne); have z3' : w3.frozen? ⟨p, 1, none⟩ = false := blk_frozen hb3.out 1; have e3 : w3.cell? ⟨p, 1, none⟩ = some (.slice A sl.length c) := blk_cell hb3.out 1; have HR3 := Aside0.mk hR3; have HC3 := Aside0.mk hC3; have Hg3 := Aside0.mk hg3; clear hR3 hC3 hg3 hbb hne hn3))
  go_ret
  exact ⟨rfl, tab_pushedS Hb.out HT.out HS.out HMi.out Hmw.out hFF HDw.out HD.out hC2.out HM2.out (below_alloc (Below.refl _ _) _) HR3.out HC3.out Hg3.out Hs.out Hmm.out⟩

theorem word_any (p : Nat) (F : Nat → Prop) (sl : List ByteArray) (tl : List (List Int)) (s : ByteArray) (w : World) (h : TabAt w F p sl tl) (hs : sOk s) (hlen : sl.length ≤ 1000000) :
    Calls Try.prog 42 #[.pointer (some ⟨p, 0, none⟩), .string s] w fun e w' => e = .returned (.int .i64 (place sl s : Int)) ∧ TabAt w' (ext F w w') p (wordL sl s) tl ∧ Chg F w w' := by
  by_cases hm : s ∈ sl
  · refine (word_old p F sl tl s w h hs hm).mono ?_
    rintro e w' ⟨h1, rfl⟩
    unfold wordL
    rw [if_pos hm]
    exact ⟨h1, h.mono (fun k hk => .inl hk), Chg.refl F w⟩
  · refine (word_new p F sl tl s w h hs hm hlen).mono ?_
    rintro e w' ⟨h1, h2, h3⟩
    unfold wordL
    rw [if_neg hm, place_new hm]
    exact ⟨h1, h2, h3⟩
end Go.Proofs.Ytmaoadlighjkpaa.In
