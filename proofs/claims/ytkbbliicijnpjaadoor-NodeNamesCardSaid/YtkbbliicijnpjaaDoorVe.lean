/- Va, Vb, Vc, Vd, Ve -/
import Derived.Test.YtkbbliicijnpjaaDoorTb
import Derived.Test.YtkbbliicijnpjaaDoorKb
import Derived.Test.YtkbbliicijnpjaaDoorPd
/- Va: nodes: words with blanks between. -/
section
namespace Go.Proofs.YtkbbliicijnpjaaDoor.Tx
open Go.RowKit Go.Proofs.YtkbbliicijnpjaaDoorW.PrintWords Go.Proofs.YtkbbliicijnpjaaDoorW.PrintLast Go.Proofs.YtkbbliicijnpjaaDoorW.PrintMore
open Go.Proofs.YtkbbliicijnpjaaDoor.Base Go.Proofs.YtkbbliicijnpjaaDoor.Ca
set_option linter.unusedVariables false

/-- a word: a text or a number -/
inductive Wd
  | txt (s : ByteArray)
  | num (n : Int)
def Wd.enc : Wd → Value
  | .txt s => .iface 9 (.string s)
  | .num n => .iface 3 (.int .i64 n)
def Wd.str : Wd → ByteArray
  | .txt s => s
  | .num n => itoaS n
def Wd.ok (m : Nat) : Wd → Prop
  | .txt s => s.size ≤ m
  | .num n => (Lit.int .i64 n).wf = true
/-- words, one behind the other -/
def wordsS (l : List Wd) : ByteArray := joinB (l.map Wd.str) { data := #[32] }
theorem wd_snoc (l : List Wd) (i : Nat) (h : i < l.length) : (l.take (i + 1)).map Wd.str = (l.take i).map Wd.str ++ [(l[i]).str] := by
  rw [List.take_succ_eq_append_getElem h, List.map_append]
  rfl

theorem as_str (v : Value) (w : World) : (Instr.typeAssert (.iface 9 v) 20 9 true).run Tryd.prog w = .ok (.tuple #[v, .bool true]) w := by kernel_rfl
theorem as_not (v : Value) (w : World) : (Instr.typeAssert (.iface 3 v) 20 9 true).run Tryd.prog w = .ok (.tuple #[.string { data := #[] }, .bool false]) w := by kernel_rfl
theorem as_num (v : Value) (w : World) : (Instr.typeAssert (.iface 3 v) 20 3 true).run Tryd.prog w = .ok (.tuple #[v, .bool true]) w := by kernel_rfl

attribute [local go_sem high] as_str as_not as_num
set_option maxHeartbeats 4000000 in
set_option maxRecDepth 100000 in
theorem words_any (g c m : Nat) (l : List Wd) (w : World) (hr : ∀ (j : Nat) (h : j < l.length), w.cell? ⟨g, j, none⟩ = some (l[j]).enc) (hg : g < w.heap.size) (hP : P10 w) (hw : ∀ x ∈ l, x.ok m) (hm : 21 ≤ m) (hm2 : m ≤ 10000) (hl : l.length ≤ 100) (hl0 : 0 < l.length) :
    Calls Tryd.prog 57 #[.slice (some ⟨g, 0, none⟩) l.length c] w fun e w' => e = .returned (.string (wordsS l)) ∧ Below w.heap.size w w' := by
  obtain ⟨t, ht⟩ : ∃ t, wordsS l = t := ⟨_, rfl⟩
  rw [ht]
  have Ht := Aside0.mk ht
  have HR := Aside0.mk hr
  have HG := Aside0.mk hg
  have HP := Aside0.mk hP
  have Hw := Aside0.mk hw
  have Hl := Aside0.mk hl
  have Hm := Aside0.mk (And.intro hm hm2)
  clear ht hr hP hw hl hg hm hm2 hl0
  go_enter Tryd.func57, Tryd.ntmps57
  go_wp2_with fail
  go_loopw [3, 5, 6, 7, 10] (fun T _ _ _ C wr => ∃ i : Nat, C = .int .i64 (i : Int) ∧ i ≤ l.length ∧ Aside0 (OwS wr w.heap.size T ((l.take i).map Wd.str)) ∧ Aside0 (Below w.heap.size w wr)) (fun _ _ _ _ C _ => l.length - (intOf C).toNat)
  case atStart => exact ⟨0, rfl, Nat.zero_le _, ⟨OwS.nil _ _⟩, ⟨Below.refl _ _⟩⟩
  case round =>
    obtain ⟨i, rfl, hi, hT, hB⟩ := hrel
    by_cases hin : i < l.length
    · have hnb : decide ((i : Int) < (l.length : Int)) = true := decide_eq_true (by omega)
      have hnc : decide (i < l.length) = true := decide_eq_true hin
      have hx := bel_cell hB.out (HR.out i hin)
      have i0 : 0 ≤ (i : Int) := by omega
      have i1 : (i : Int) < (l.length : Int) := by omega
      have hsn := wd_snoc l i hin
      have hok := Hw.out _ (List.getElem_mem hin)
      obtain ⟨x, hxx⟩ : ∃ x, l[i] = x := ⟨_, rfl⟩
      rw [hxx] at hx hsn hok
      have hw : Aside0 (wrap64 ((i : Int) + 1) = ((i + 1 : Nat) : Int)) := ⟨by have := Hl.out; unfold wrap64; omega⟩
      have Hin := Aside0.mk hin
      clear hin hi hxx
      replace i0 := eq_true i0
      replace i1 := eq_true i1
      cases x with
      | txt s =>
        replace hx : wr.cell? ⟨g, i, none⟩ = some (.iface 9 (.string s)) := hx
        have Hsn := Aside0.mk hsn
        have HT2 := Aside0.mk (hT.out.below (below_alloc (Below.refl _ _) (.cells #[.string s] 9)))
        have HB2 := Aside0.mk (below_alloc hB.out (.cells #[.string s] 9))
        have HX2 : Aside0 ((wr.alloc (.cells #[.string s] 9)).cell? ⟨wr.heap.size, 0, none⟩ = some (.string s)) := ⟨blk_cell (heap_alloc_new _ _) 0⟩
        clear hsn hok
        go_wp2_with (first | (at_builtin; refine appS (wb := w) rfl (.tmp 18) (.tmp 20) rfl u3 wr.heap.size 1 ((l.take i).map Wd.str) s rfl rfl HT2.out HX2.out HB2.out (by have := Hl.out; have := Hin.out; rw [List.length_map, List.length_take]; omega) ?_; intro v1 w2 hT3 hB3))
        go_roundw
        case rel => exact ⟨i + 1, by rw [hw.out], Hin.out, ⟨by rw [Hsn.out]; exact hT3⟩, ⟨hB3⟩⟩
        case measure => exact msr hw.out Hin.out
      | num n =>
        replace hx : wr.cell? ⟨g, i, none⟩ = some (.iface 3 (.int .i64 n)) := hx
        have Hwx : Aside0 ((Lit.int .i64 n).wf = true) := ⟨hok⟩
        obtain ⟨tx, htx⟩ : ∃ tx, itoaS n = tx := ⟨_, rfl⟩
        have Htx := Aside0.mk htx
        replace hsn : (l.take (i + 1)).map Wd.str = (l.take i).map Wd.str ++ [itoaS n] := hsn
        rw [htx] at hsn
        have Hsn := Aside0.mk hsn
        clear hsn hok htx
        go_wp2_with fail
        refine (itoa_any n _ (HP.out.below hB.out) Hwx.out).mono ?_
        rintro e w1 ⟨rfl, hb1⟩
        rw [Htx.out]
        have HB1 := Aside0.mk (bel_trans hB.out hb1)
        have HT1 := Aside0.mk (hT.out.below hb1)
        have HB2 := Aside0.mk (below_alloc HB1.out (.cells #[.string tx] 9))
        have HT2 := Aside0.mk (HT1.out.below (below_alloc (Below.refl _ _) (.cells #[.string tx] 9)))
        have HX2 : Aside0 ((w1.alloc (.cells #[.string tx] 9)).cell? ⟨w1.heap.size, 0, none⟩ = some (.string tx)) := ⟨blk_cell (heap_alloc_new _ _) 0⟩
        clear hb1
        go_wp2_with (first | (at_builtin; refine appS (wb := w) rfl (.tmp 25) (.tmp 28) rfl u3 w1.heap.size 1 ((l.take i).map Wd.str) tx rfl rfl HT2.out HX2.out HB2.out (by have := Hl.out; have := Hin.out; rw [List.length_map, List.length_take]; omega) ?_; intro v1 w2 hT3 hB3))
        go_roundw
        case rel => exact ⟨i + 1, by rw [hw.out], Hin.out, ⟨by rw [Hsn.out]; exact hT3⟩, ⟨hB3⟩⟩
        case measure => exact msr hw.out Hin.out
    · have hnb : decide ((i : Int) < (l.length : Int)) = false := decide_eq_false (by omega)
      have hnc : decide (i < l.length) = false := decide_eq_false hin
      obtain rfl : i = l.length := by omega
      rw [List.take_length] at hT
      have hsm : ∀ x ∈ l.map Wd.str, x.size ≤ m := fun x hx => by
        obtain ⟨z, hz, rfl⟩ := List.mem_map.1 hx
        have h1 := Hw.out z hz
        have h2 := Hm.out
        cases z with
        | txt s => exact h1
        | num n => exact Nat.le_trans (itoaS_le h1) h2.1
      have Hsm := Aside0.mk hsm
      clear hin hi hsm
      go_wp2_with fail
      refine (join_any u3 (l.map Wd.str) _ _ w.heap.size hT.out m Hsm.out (by have := Hm.out; omega) (by rw [List.length_map]; have := Hl.out; omega) (by decide)).mono ?_
      rintro e w1 ⟨rfl, hb1⟩
      go_wp2
      go_ret
      exact ⟨by rw [← Ht.out]; rfl, bel_trans hB.out hb1⟩
end Go.Proofs.YtkbbliicijnpjaaDoor.Tx
end

/- Vb: nodes: a ctx.Table made by the call, and blocks beside it. -/
section
namespace Go.Proofs.YtkbbliicijnpjaaDoor.Tx
open Go.RowKit Go.Proofs.YtkbbliicijnpjaaDoorW.PrintWords Go.Proofs.YtkbbliicijnpjaaDoorW.PrintLast Go.Proofs.YtkbbliicijnpjaaDoorW.PrintMore
open Go.Proofs.YtkbbliicijnpjaaDoor.Base Go.Proofs.YtkbbliicijnpjaaDoor.Map Go.Proofs.YtkbbliicijnpjaaDoor.Ca Go.Proofs.YtkbbliicijnpjaaDoor.Qu Go.Proofs.YtkbbliicijnpjaaDoor.In Go.Proofs.YtkbbliicijnpjaaDoor.Kx Go.Maps
set_option linter.unusedVariables false
theorem _root_.Go.Proofs.YtkbbliicijnpjaaDoor.In.TabAt.chg {w w1 : World} {F G : Nat → Prop} {p : Nat} {sl : List ByteArray} {tl : List (List Int)} (h : TabAt w F p sl tl) (hC : Chg G w w1) (hd : ∀ k, F k → ¬ G k) : TabAt w1 F p sl tl := by
  obtain ⟨vt, vs, mw, mi, fw, fi, h1, h2, h3, h4, h5, h6, h7⟩ := h
  exact ⟨vt, vs, mw, mi, fw, fi, hC.blk h1 (hd _ h6.1), Kd.R_step h2 (fun k hk hlt => hC.block k hlt (hd k hk)), Kd.R_step h3 (fun k hk hlt => hC.block k hlt (hd k hk)), h4.chg hC (hd _ h6.2.1), h5.chg hC (hd _ h6.2.2.1), h6, h7⟩

structure CT (w0 w : World) (q p1 p2 : Nat) (cl ol : List (List Int)) (bs : List (Nat × Obj)) : Prop where
  mk :: (out : ∃ F G, TabAt w F p1 [] cl ∧ TabAt w G p2 [] ol ∧ (∀ k, F k → ¬ G k) ∧ (∀ k, F k → w0.heap.size ≤ k ∧ k < w.heap.size) ∧ (∀ k, G k → w0.heap.size ≤ k ∧ k < w.heap.size) ∧ Below w0.heap.size w0 w ∧
    w.heap[q]? = some (.cells #[.pointer (some ⟨p1, 0, none⟩), .pointer (some ⟨p2, 0, none⟩)] 58 (0, 0)) ∧ w0.heap.size ≤ q ∧ ¬ F q ∧ ¬ G q ∧
    ∀ x ∈ bs, w.heap[x.1]? = some x.2 ∧ w0.heap.size ≤ x.1 ∧ ¬ F x.1 ∧ ¬ G x.1)
section
variable {w0 w w1 : World} {q p1 p2 : Nat} {cl ol : List (List Int)} {bs : List (Nat × Obj)}
theorem CT.bel (h : CT w0 w q p1 p2 cl ol bs) : Below w0.heap.size w0 w := by obtain ⟨F, G, _, _, _, _, _, h, _⟩ := h; exact h
theorem CT.blk (h : CT w0 w q p1 p2 cl ol bs) : w.heap[q]? = some (.cells #[.pointer (some ⟨p1, 0, none⟩), .pointer (some ⟨p2, 0, none⟩)] 58 (0, 0)) := by
  obtain ⟨F, G, _, _, _, _, _, _, h, _⟩ := h
  exact h
theorem CT.tabs (h : CT w0 w q p1 p2 cl ol bs) : (∃ F, TabAt w F p1 [] cl) ∧ ∃ G, TabAt w G p2 [] ol := by
  obtain ⟨F, G, h1, h2, _⟩ := h
  exact ⟨⟨F, h1⟩, ⟨G, h2⟩⟩
theorem CT.below (h : CT w0 w q p1 p2 cl ol bs) (hb : Below w.heap.size w w1) : CT w0 w1 q p1 p2 cl ol bs := by
  obtain ⟨F, G, h1, h2, h3, h4, h5, h6, h7, h8, h9, h10, h11⟩ := h
  exact ⟨F, G, h1.below hb, h2.below hb, h3, fun k hk => ⟨(h4 k hk).1, Nat.lt_of_lt_of_le (h4 k hk).2 hb.size⟩, fun k hk => ⟨(h5 k hk).1, Nat.lt_of_lt_of_le (h5 k hk).2 hb.size⟩, below_then h6 h6.size hb, Qu.blk_below h7 hb, h8, h9, h10, fun x hx => ⟨Qu.blk_below (h11 x hx).1 hb, (h11 x hx).2⟩⟩
theorem CT.box (h : CT w0 w q p1 p2 cl ol bs) (hb : Below w.heap.size w w1) {b : Nat} {o : Obj} (ho : w1.heap[b]? = some o) (hn : w.heap.size ≤ b) : CT w0 w1 q p1 p2 cl ol ((b, o) :: bs) := by
  obtain ⟨F, G, h1, h2, h3, h4, h5, h6, h7, h8, h9, h10, h11⟩ := h
  refine ⟨F, G, h1.below hb, h2.below hb, h3, fun k hk => ⟨(h4 k hk).1, Nat.lt_of_lt_of_le (h4 k hk).2 hb.size⟩, fun k hk => ⟨(h5 k hk).1, Nat.lt_of_lt_of_le (h5 k hk).2 hb.size⟩, below_then h6 h6.size hb, Qu.blk_below h7 hb, h8, h9, h10, fun x hx => ?_⟩
  rcases List.mem_cons.1 hx with rfl | hx
  · exact ⟨ho, Nat.le_trans h6.size hn, fun hf => by have := (h4 _ hf).2; omega, fun hf => by have := (h5 _ hf).2; omega⟩
  · exact ⟨Qu.blk_below (h11 x hx).1 hb, (h11 x hx).2⟩
theorem CT.in_ (h : CT w0 w q p1 p2 cl ol bs) {b : Nat} {o : Obj} (hx : (b, o) ∈ bs) : w.heap[b]? = some o := by
  obtain ⟨F, G, h1, h2, h3, h4, h5, h6, h7, h8, h9, h10, h11⟩ := h
  exact (h11 _ hx).1
end
theorem ctx_ct (w0 w : World) (q p1 p2 : Nat) (cl ol : List (List Int)) (bs : List (Nat × Obj)) (u : Value) (ns : List Int) (h : CT w0 w q p1 p2 cl ol bs) (hu : RdV w u ns) (hw : ∀ x ∈ ns, (Lit.int .i64 x).wf = true) (hlen : cl.length ≤ 1000000) :
    Calls Tryd.prog 27 #[.agg #[.pointer (some ⟨p1, 0, none⟩)], u] w fun e w' => e = .returned (.int .i64 (ctxId cl ns)) ∧ CT w0 w' q p1 p2 (ctxT cl ns) ol bs := by
  obtain ⟨F, G, h1, h2, h3, h4, h5, h6, h7, h8, h9, h10, h11⟩ := h
  refine (ctx_any p1 F [] cl u ns w h1 (fun k hk => (h4 k hk).2) hu hw hlen).mono fun e w' ⟨r1, r2, r3⟩ => ⟨r1, _, G, r2, h2.chg r3 (fun k hg hf => h3 k hf hg), ?_, ?_, fun k hk => ⟨(h5 k hk).1, Nat.lt_of_lt_of_le (h5 k hk).2 r3.size⟩, h6.trans (r3.below h6.size (fun k hk => (h4 k hk).1)), r3.blk h7 h9, h8, ?_, h10, fun x hx => ⟨r3.blk (h11 x hx).1 (h11 x hx).2.2.1, (h11 x hx).2.1, fun hf => hf.elim (h11 x hx).2.2.1 (fun h => by have := blk_lt (h11 x hx).1; omega), (h11 x hx).2.2.2⟩⟩
  · exact fun k hk hg => hk.elim (fun h => h3 k h hg) (fun h => by have := (h5 k hg).2; omega)
  · exact fun k hk => hk.elim (fun h => ⟨(h4 k h).1, Nat.lt_of_lt_of_le (h4 k h).2 r3.size⟩) (fun h => ⟨Nat.le_trans h6.size h.1, h.2⟩)
  · exact fun hk => hk.elim h9 (fun h => by have := blk_lt h7; omega)
theorem obj_ct (w0 w : World) (q p1 p2 : Nat) (cl ol : List (List Int)) (bs : List (Nat × Obj)) (site : Int) (u : Value) (ns : List Int) (h : CT w0 w q p1 p2 cl ol bs) (hu : RdV w u ns) (hs : (Lit.int .i64 site).wf = true) (hw : ∀ x ∈ ns, (Lit.int .i64 x).wf = true) (hlen : ol.length ≤ 1000000) :
    Calls Tryd.prog 28 #[.agg #[.pointer (some ⟨p2, 0, none⟩)], .agg #[.int .i64 site, u]] w fun e w' => e = .returned (.int .i64 (objId ol site ns)) ∧ CT w0 w' q p1 p2 cl (objT ol site ns) bs := by
  obtain ⟨F, G, h1, h2, h3, h4, h5, h6, h7, h8, h9, h10, h11⟩ := h
  refine (obj_any p2 G [] ol site u ns w h2 (fun k hk => (h5 k hk).2) hu hs hw hlen).mono fun e w' ⟨r1, r2, r3⟩ => ⟨r1, F, _, h1.chg r3 h3, r2, ?_, fun k hk => ⟨(h4 k hk).1, Nat.lt_of_lt_of_le (h4 k hk).2 r3.size⟩, ?_, h6.trans (r3.below h6.size (fun k hk => (h5 k hk).1)), r3.blk h7 h10, h8, h9, ?_, fun x hx => ⟨r3.blk (h11 x hx).1 (h11 x hx).2.2.2, (h11 x hx).2.1, (h11 x hx).2.2.1, fun hf => hf.elim (h11 x hx).2.2.2 (fun h => by have := blk_lt (h11 x hx).1; omega)⟩⟩
  · exact fun k hk hg => hg.elim (fun h => h3 k hk h) (fun h => by have := (h4 k hk).2; omega)
  · exact fun k hk => hk.elim (fun h => ⟨(h5 k h).1, Nat.lt_of_lt_of_le (h5 k h).2 r3.size⟩) (fun h => ⟨Nat.le_trans h6.size h.1, h.2⟩)
  · exact fun hk => hk.elim h10 (fun h => by have := blk_lt h7; omega)
set_option maxHeartbeats 1000000 in
set_option maxRecDepth 100000 in
theorem new_ct (w0 w : World) (hb : Below w0.heap.size w0 w) : Calls Tryd.prog 25 #[] w fun e w' => ∃ q p1 p2, e = .returned (.pointer (some ⟨q, 0, none⟩)) ∧ CT w0 w' q p1 p2 [] [] [] := by
  go_enter Tryd.func25, Tryd.ntmps25
  go_wp2_with fail
  refine (new_tab w).mono ?_
  rintro e w1 ⟨rfl, h1, b1⟩
  generalize hp1 : w.heap.size + 2 = p1 at *
  go_wp2_with fail
  refine (new_tab w1).mono ?_
  rintro e w2 ⟨rfl, h2, b2⟩
  generalize hp2 : w1.heap.size + 2 = p2 at *
  go_wp2
  go_ret
  have b3 := below_alloc (Below.refl w2.heap.size w2) (.cells #[.pointer (some ⟨p1, 0, none⟩), .pointer (some ⟨p2, 0, none⟩)] 58)
  have hB := below_then (below_then (below_then hb hb.size b1) (Nat.le_trans hb.size b1.size) b2) (Nat.le_trans (Nat.le_trans hb.size b1.size) b2.size) b3
  have s0 := hb.size
  have s1 := b1.size
  have s2 := b2.size
  refine ⟨_, p1, p2, rfl, _, _, (h1.below b2).below b3, h2.below b3, fun k hk hg => by have := hk.2; have := hg.1; omega, fun k hk => ⟨by have := hk.1; omega, by have := hk.2; simp; omega⟩, fun k hk => ⟨by have := hk.1; omega, by have := hk.2; simp; omega⟩, hB, heap_alloc_new _ _, by omega, fun h => by have := h.2; omega, fun h => by have := h.2; omega, fun x hx => by cases hx⟩
end Go.Proofs.YtkbbliicijnpjaaDoor.Tx
end

/- Vc: nodes: a node's name. -/
section
namespace Go.Proofs.YtkbbliicijnpjaaDoor.Tx
open Go.RowKit Go.Proofs.YtkbbliicijnpjaaDoorW.PrintWords Go.Proofs.YtkbbliicijnpjaaDoorW.PrintLast Go.Proofs.YtkbbliicijnpjaaDoorW.PrintMore
open Go.Proofs.YtkbbliicijnpjaaDoor.Base Go.Proofs.YtkbbliicijnpjaaDoor.Map Go.Proofs.YtkbbliicijnpjaaDoor.Ca Go.Proofs.YtkbbliicijnpjaaDoor.Qu Go.Proofs.YtkbbliicijnpjaaDoor.In Go.Proofs.YtkbbliicijnpjaaDoor.Kx Go.Maps Go.Proofs.YtkbbliicijnpjaaDoor.PNodeIds
set_option linter.unusedVariables false

/-- a node as far as it counts -/
def pl (k a b c : Int) : Int × Int × Int × Int × Bool := if k = 4 then (4, a, 0, 0, true) else if k = 1 ∨ k = 2 ∨ k = 3 then (k, a, b, 0, true) else if k = 0 then (0, a, b, c, true) else (0, 0, 0, 0, false)
theorem plain_f (k a b c : Int) : node_plain.f 5 k a b c = some (pl k a b c) := by
  unfold node_plain.f pl
  by_cases h4 : k = 4
  · subst h4; rfl
  rw [if_neg h4, if_neg h4]
  by_cases h1 : k = 1
  · subst h1; rfl
  rw [if_neg h1]
  by_cases h2 : k = 2
  · subst h2; rfl
  rw [if_neg h2]
  by_cases h3 : k = 3
  · subst h3; rfl
  have e : (k == 3) = false := by simpa using h3
  have e2 : (if k = 1 ∨ k = 2 ∨ k = 3 then (k, a, b, 0, true) else if k = 0 then (0, a, b, c, true) else (0, 0, 0, 0, false)) = (if k = 0 then ((0 : Int), a, b, c, true) else (0, 0, 0, 0, false)) := by rw [if_neg (by omega)]
  rw [e2, node_plain.j0, e]
  by_cases h0 : k = 0
  · subst h0; rfl
  · rw [if_neg (by decide), if_neg h0, if_neg h0]
theorem plain_any (k a b c : Int) (w : World) : Calls Tryd.prog 55 #[.agg #[.int .i64 k, .int .i64 a, .int .i64 b, .int .i64 c]] w fun e w' => e = .returned (.tuple #[.agg #[.int .i64 (pl k a b c).1, .int .i64 (pl k a b c).2.1, .int .i64 (pl k a b c).2.2.1, .int .i64 (pl k a b c).2.2.2.1], .bool (pl k a b c).2.2.2.2]) ∧ Below w.heap.size w w' :=
  node_plain.calls 5 k a b c _ _ _ _ _ w (plain_f k a b c)

def ctxTx (cl : List (List Int)) (a : Int) : ByteArray := textS (tupleOf cl a)
theorem tupleOf_mem (cl : List (List Int)) (a : Int) (h : ∀ t ∈ cl, tOk t) : tOk (tupleOf cl a) := by
  unfold tupleOf
  split
  · rename_i h1
    have : cl.getD a.toNat [] ∈ cl := by
      rw [List.getD_eq_getElem?_getD, List.getElem?_eq_getElem (by omega)]
      exact List.getElem_mem (by omega)
    exact h _ this
  · exact ⟨by simp, fun x hx => by simp at hx⟩
theorem ctxTx_size (cl : List (List Int)) (a : Int) (h : ∀ t ∈ cl, tOk t) : (ctxTx cl a).size ≤ 1000 := by
  obtain ⟨h1, h2⟩ := tupleOf_mem cl a h
  have hz := joinB_size ((tupleOf cl a).map itoaS) { data := #[32] } 21 (fun x hx => by
    obtain ⟨z, hz, rfl⟩ := List.mem_map.1 hx
    exact itoaS_le (h2 z hz))
  rw [List.length_map] at hz
  have h3 : (21 + ({ data := #[32] } : ByteArray).size) * (tupleOf cl a).length ≤ 22 * 8 := Nat.mul_le_mul (Nat.le_refl _) h1
  have e1 : ({ data := #[91] } : ByteArray).size = 1 := rfl
  have e2 : ({ data := #[93] } : ByteArray).size = 1 := rfl
  unfold ctxTx textS
  rw [ByteArray.size_append, ByteArray.size_append]
  omega
theorem blk_below' {w w1 : World} {g : Nat} {o : Obj} (h : w.heap[g]? = some o) (hb : Below w.heap.size w w1) : w1.heap[g]? = some o := (hb.block g (blk_lt h)).trans h
/-- Context, then Text -/
theorem ctxText_any {w : World} {u : Value} (cl : List (List Int)) (a : Int) (hu : RdV w u (tupleOf cl a)) (hP : P10 w) (h : ∀ t ∈ cl, tOk t) : Calls Tryd.prog 20 #[u] w fun e w' => e = .returned (.string (ctxTx cl a)) ∧ Below w.heap.size w w' :=
  text_any u _ w hu hP (tupleOf_mem cl a h).2 (by have := (tupleOf_mem cl a h).1; omega)

/-- words of a slice that is new -/
theorem words_new (l : List Wd) (w : World) (hP : P10 w) (m : Nat) (hw : ∀ x ∈ l, x.ok m) (hm : 21 ≤ m) (hm2 : m ≤ 10000) (hl : l.length ≤ 100) (hl0 : 0 < l.length) :
    Calls Tryd.prog 57 #[.slice (some ⟨w.heap.size, 0, none⟩) l.length l.length] (w.alloc (.cells (l.map Wd.enc).toArray 20)) fun e w' => e = .returned (.string (wordsS l)) ∧ Below w.heap.size w w' := by
  have hb := below_alloc (Below.refl w.heap.size w) (.cells (l.map Wd.enc).toArray 20)
  refine (words_any w.heap.size l.length m l _ (fun j h => ?_) (by simp) (hP.below hb) hw hm hm2 hl hl0).mono fun e w' ⟨h1, h2⟩ => ⟨h1, bel_trans hb h2⟩
  rw [blk_cell (heap_alloc_new w _) j]
  simp [List.getElem?_eq_getElem h]
set_option maxHeartbeats 4000000 in
set_option maxRecDepth 100000 in
theorem name_var (w0 w : World) (q p1 p2 : Nat) (cl ol : List (List Int)) (bs : List (Nat × Obj)) (x : Nat) (i1 k0 k1 k2 k3 k4 : Value) (h : CT w0 w q p1 p2 cl ol bs) (hx : (x, .cells #[.pointer (some ⟨q, 0, none⟩), i1, k0, k1, k2, k3, k4] 90 (0, 0)) ∈ bs) (hP : P10 w) (hcl : ∀ t ∈ cl, tOk t) (a b c : Int) (hb : (Lit.int .i64 b).wf = true) (hc : (Lit.int .i64 c).wf = true) :
    Calls Tryd.prog 29 #[.pointer (some ⟨x, 0, none⟩), .agg #[.int .i64 0, .int .i64 a, .int .i64 b, .int .i64 c]] w fun e w' => e = .returned (.string (wordsS [.txt ⟨#[118, 97, 114]⟩, .num b, .txt (ctxTx cl a), .num c])) ∧ Below w.heap.size w w' := by
  obtain ⟨tn, htn⟩ : ∃ t, wordsS [.txt ⟨#[118, 97, 114]⟩, .num b, .txt (ctxTx cl a), .num c] = t := ⟨_, rfl⟩
  rw [htn]
  have Htn := Aside0.mk htn
  have hxb := h.in_ hx
  have H := Aside0.mk h
  have HX := Aside0.mk hxb
  have HP := Aside0.mk hP
  have HC := Aside0.mk hcl
  have Hb := Aside0.mk hb
  have Hc := Aside0.mk hc
  obtain ⟨g, hg⟩ : ∃ g, w.heap.size = g := ⟨_, rfl⟩
  have hwb : ∀ wb, w.alloc (.cells #[.int .i64 0, .int .i64 a, .int .i64 b, .int .i64 c] 46) = wb → wb.heap[g]? = some (.cells #[.int .i64 0, .int .i64 a, .int .i64 b, .int .i64 c] 46 (0, 0)) ∧ Below w.heap.size w wb := by
    rintro wb rfl
    subst hg
    exact ⟨heap_alloc_new _ _, below_alloc (Below.refl _ _) _⟩
  clear htn hb hc hcl hP hxb hx h
  go_enter Tryd.func29, Tryd.ntmps29
  go_wp2_with fail
  have Hg := Aside0.mk hg
  clear hg
  generalize hqw : w.alloc (.cells #[.int .i64 0, .int .i64 a, .int .i64 b, .int .i64 c] 46) = wb
  obtain ⟨B0, hB⟩ := hwb wb hqw
  clear hwb hqw
  refine (plain_any _ _ _ _ _).mono ?_
  rintro e w1 ⟨rfl, h1⟩
  have B1 := blk_below' B0 h1
  have HB := Aside0.mk (below_then hB hB.size h1)
  have HBk := Aside0.mk B1
  have d0 := blk_cell B1 0
  have d1 := blk_cell B1 1
  have d2 := blk_cell B1 2
  have d3 := blk_cell B1 3
  have f0 := blk_frozen B1 0
  have f1 := blk_frozen B1 1
  have f2 := blk_frozen B1 2
  have f3 := blk_frozen B1 3
  have hpl : pl 0 a b c = (0, a, b, c, true) := by unfold pl; rw [if_neg (by decide), if_neg (by decide), if_pos rfl]
  rw [hpl]
  clear B0 hB h1 B1 hpl
  go_upto_region 2 with (fail)
  have P0 := blk_put (blk_put (blk_put (blk_put HBk.out 0 (.int .i64 0) rfl) 1 (.int .i64 a) rfl) 2 (.int .i64 b) rfl) 3 (.int .i64 c) rfl
  have hge : w.heap.size ≤ g := Nat.le_of_eq Hg.out
  have PB := below_setCell (below_setCell (below_setCell (below_setCell HB.out (p := ⟨g, 0, none⟩) hge (.int .i64 0)) (p := ⟨g, 1, none⟩) hge (.int .i64 a)) (p := ⟨g, 2, none⟩) hge (.int .i64 b)) (p := ⟨g, 3, none⟩) hge (.int .i64 c)
  generalize (((w1.setCell ⟨g, 0, none⟩ (.int .i64 0)).setCell ⟨g, 1, none⟩ (.int .i64 a)).setCell ⟨g, 2, none⟩ (.int .i64 b)).setCell ⟨g, 3, none⟩ (.int .i64 c) = W at *
  clear d0 d1 d2 d3 f0 f1 f2 f3 hge HB HBk
  have HB := Aside0.mk PB
  have HT := Aside0.mk (H.out.below PB)
  have HPW := Aside0.mk (HP.out.below PB)
  have HXW := Aside0.mk (blk_below' HX.out PB)
  have HQW := Aside0.mk (HT.out.blk)
  obtain ⟨⟨F, hF⟩, _⟩ := HT.out.tabs
  have HF := Aside0.mk hF
  have HG0 := Aside0.mk P0
  have x0 := blk_cell HXW.out 0
  have q0 := blk_cell HQW.out 0
  have g1 := blk_cell HG0.out 1
  clear P0 PB hF
  obtain ⟨tc, htc⟩ : ∃ t, ctxTx cl a = t := ⟨_, rfl⟩
  have Htc := Aside0.mk htc
  clear htc
  have HB1 := Below.refl W.heap.size W
  go_region_held3 (fun w' => w'.cell? ⟨x, 0, none⟩ = some (.pointer (some ⟨q, 0, none⟩)) ∧ w'.cell? ⟨q, 0, none⟩ = some (.pointer (some ⟨p1, 0, none⟩)) ∧ w'.cell? ⟨g, 1, none⟩ = some (.int .i64 a) ∧ Below W.heap.size W w') (first | (exact ⟨bel_cell HB1 x0, bel_cell HB1 q0, bel_cell HB1 g1, HB1⟩) | go_keep)
    (first
      | (go_at_call 56; (with_reducible refine (context_any p1 F [] cl _ (HF.out.below (by simp [*])) a).mono ?_); rintro e w5 ⟨v5, rfl, H5, B5⟩; have R5 := Aside0.mk (OwI.toV H5); have HB2 := bel_trans (wb := W) (by simp [*]) B5; clear HB1 H5 B5; have HB1 := HB2; clear HB2)
      | (go_at_call 20; (with_reducible refine (ctxText_any cl a R5.out (HPW.out.below (by simp [*])) HC.out).mono ?_); rintro e w6 ⟨rfl, B6⟩; rw [Htc.out]; have HB2 := bel_trans HB1 B6; clear HB1 B6; have HB1 := HB2; clear HB2)
      | (fail))
  have HB6 := Aside0.mk HB1
  have HG6 := Aside0.mk (blk_below' HG0.out HB1)
  have g0 := blk_cell HG6.out 0
  have g2 := blk_cell HG6.out 2
  have g3 := blk_cell HG6.out 3
  clear x0 q0 g1 HB1
  go_wp2_with fail
  refine (words_new [.txt ⟨#[118, 97, 114]⟩, .num b, .txt tc, .num c] w6 (HPW.out.below HB6.out) 1000 ?_ (by decide) (by decide) (by simp) (by simp)).mono ?_
  · intro y hy
    have ht : tc.size ≤ 1000 := by rw [← Htc.out]; exact ctxTx_size cl a HC.out
    simp only [List.mem_cons, List.not_mem_nil, or_false] at hy
    rcases hy with rfl | rfl | rfl | rfl
    · show (⟨#[118, 97, 114]⟩ : ByteArray).size ≤ 1000; decide
    · exact Hb.out
    · exact ht
    · exact Hc.out
  rintro e w7 ⟨rfl, h7⟩
  go_wp2
  go_ret
  exact ⟨by rw [← Htn.out, Htc.out]; rfl, below_then (below_then HB.out HB.out.size HB6.out) (below_then HB.out HB.out.size HB6.out).size h7⟩
end Go.Proofs.YtkbbliicijnpjaaDoor.Tx
end

/- Vd: nodes: New, the layer's example. -/
section
namespace Go.Proofs.YtkbbliicijnpjaaDoor.Tx
open Go.RowKit Go.Proofs.YtkbbliicijnpjaaDoorW.PrintWords Go.Proofs.YtkbbliicijnpjaaDoorW.PrintLast Go.Proofs.YtkbbliicijnpjaaDoorW.PrintMore
open Go.Proofs.YtkbbliicijnpjaaDoor.Base Go.Proofs.YtkbbliicijnpjaaDoor.Map Go.Proofs.YtkbbliicijnpjaaDoor.Ca Go.Proofs.YtkbbliicijnpjaaDoor.Qu Go.Proofs.YtkbbliicijnpjaaDoor.In Go.Proofs.YtkbbliicijnpjaaDoor.Kx Go.Maps Go.Proofs.YtkbbliicijnpjaaDoor.PNodeIds
set_option linter.unusedVariables false

/-- how many of a kind -/
def cntK (tl : List (List Int)) (k : Int) : Int := ((tl.filter (fun t => decide (t.headD (-1) = k))).length : Int)
def nodeB (q p : Nat) (tl : List (List Int)) : Obj := .cells #[.pointer (some ⟨q, 0, none⟩), .pointer (some ⟨p, 0, none⟩), .int .i64 (cntK tl 0), .int .i64 (cntK tl 1), .int .i64 (cntK tl 2), .int .i64 (cntK tl 3), .int .i64 (cntK tl 4)] 90 (0, 0)
/-- the nodes in block x: the numbers' table in block p -/
structure NK (w0 w : World) (x p q : Nat) (tl : List (List Int)) : Prop where
  mk :: (out : ∃ H, TabAt w H p [] tl ∧ (∀ k, H k → w0.heap.size ≤ k ∧ k < w.heap.size) ∧ w.heap[x]? = some (nodeB q p tl) ∧ w0.heap.size ≤ x ∧ ¬ H x ∧ Below w0.heap.size w0 w)
section
variable {w0 w w1 : World} {x p q : Nat} {tl : List (List Int)}
theorem NK.bel (h : NK w0 w x p q tl) : Below w0.heap.size w0 w := by obtain ⟨H, _, _, _, _, _, h⟩ := h; exact h
theorem NK.blk (h : NK w0 w x p q tl) : w.heap[x]? = some (nodeB q p tl) := by obtain ⟨H, _, _, h, _⟩ := h; exact h
theorem NK.tab (h : NK w0 w x p q tl) : ∃ H, TabAt w H p [] tl := by obtain ⟨H, h, _⟩ := h; exact ⟨H, h⟩
theorem NK.below (h : NK w0 w x p q tl) (hb : Below w.heap.size w w1) : NK w0 w1 x p q tl := by
  obtain ⟨H, h1, h2, h3, h4, h5, h6⟩ := h
  exact ⟨H, h1.below hb, fun k hk => ⟨(h2 k hk).1, Nat.lt_of_lt_of_le (h2 k hk).2 hb.size⟩, blk_below' h3 hb, h4, h5, below_then h6 h6.size hb⟩
end

set_option maxHeartbeats 1000000 in
set_option maxRecDepth 100000 in
theorem newNodes (w0 w : World) (q : Nat) (hb : Below w0.heap.size w0 w) : Calls Tryd.prog 26 #[.pointer (some ⟨q, 0, none⟩)] w fun e w' => ∃ x p, e = .returned (.tuple #[.pointer (some ⟨x, 0, none⟩), .int .i64 0]) ∧ NK w0 w' x p q [] ∧ Below w.heap.size w w' ∧ w.heap.size ≤ x := by
  go_enter Tryd.func26, Tryd.ntmps26
  go_wp2_with fail
  refine (new_tab w).mono ?_
  rintro e w1 ⟨rfl, h1, b1⟩
  generalize hp1 : w.heap.size + 2 = p1 at *
  go_wp2_with fail
  refine bodyPost_ret (results_list (rs := [.tmp 2, .tmp 3]) rfl (by simp) (.tmp (.tmp .nil))) rfl ?_
  have b3 := below_alloc (Below.refl w1.heap.size w1) (nodeB q p1 [])
  have s0 := hb.size
  have s1 := b1.size
  exact ⟨_, p1, rfl, ⟨_, h1.below b3, fun k hk => ⟨by have := hk.1; omega, by have := hk.2; simp; omega⟩, heap_alloc_new _ _, by omega, fun h => by have := h.2; omega, below_then (below_then hb hb.size b1) (Nat.le_trans s0 s1) b3⟩, bel_trans b1 b3, s1⟩
theorem newNil (w : World) : Calls Tryd.prog 26 #[.pointer none] w fun e w' => e = .returned (.tuple #[.pointer none, .int .i64 2]) ∧ Below w.heap.size w w' := by
  go_enter Tryd.func26, Tryd.ntmps26
  go_wp2
  refine bodyPost_ret (results_list (rs := [.tmp 2, .tmp 3]) rfl (by simp) (.tmp (.tmp .nil))) rfl ?_
  exact ⟨rfl, Below.refl _ _⟩
theorem itoaS_dig (n : Nat) (h : n < 10) : itoaS (n : Int) = ⟨#[UInt8.ofNat (48 + n)]⟩ := by
  unfold itoaS
  rw [Lib.itoa_nonneg, Lib.decDigits_one h]
theorem ex_ctx : tupleOf [[3]] 0 = [3] := by decide
theorem ex_name : wordsS [.txt ⟨#[118, 97, 114]⟩, .num 5, .txt (ctxTx [[3]] 0), .num 2] = ⟨#[118, 97, 114, 32, 53, 32, 91, 51, 93, 32, 50]⟩ := by
  have e3 : itoaS 3 = ⟨#[51]⟩ := itoaS_dig 3 (by decide)
  have e5 : itoaS 5 = ⟨#[53]⟩ := itoaS_dig 5 (by decide)
  have e2 : itoaS 2 = ⟨#[50]⟩ := itoaS_dig 2 (by decide)
  unfold ctxTx textS wordsS
  rw [ex_ctx]
  show joinB [⟨#[118, 97, 114]⟩, itoaS 5, ({ data := #[91] } : ByteArray) ++ joinB [itoaS 3] { data := #[32] } ++ ({ data := #[93] } : ByteArray), itoaS 2] { data := #[32] } = _
  rw [e3, e5, e2]
  rfl
set_option maxHeartbeats 4000000 in
set_option maxRecDepth 100000 in
theorem awakeN_any (w : World) (hP : P10 w) : Calls Tryd.prog 24 #[] w fun e w' => e = .returned (.bool true) ∧ Below w.heap.size w w' := by
  have HP := Aside0.mk hP
  clear hP
  go_enter Tryd.func24, Tryd.ntmps24
  go_wp2_with fail
  refine (new_ct w w (Below.refl _ _)).mono ?_
  rintro e w1 ⟨q, p1, p2, rfl, h1⟩
  have HC := Aside0.mk h1
  have B1 := blk_cell h1.blk 0
  have hl3 := OwI.lit w1 [3] (by decide)
  clear h1
  have hal := below_alloc (Below.refl w1.heap.size w1) (.cells (nums .i64 [3]).toArray 3)
  have HC1 := Aside0.mk (HC.out.below hal)
  have HR := Aside0.mk hl3.toV
  clear hal hl3
  go_wp2_with fail
  refine (ctx_ct w _ q p1 p2 [] [] [] _ [3] HC1.out HR.out (by decide) (by decide)).mono ?_
  rintro e w2 ⟨rfl, h2⟩
  have e0 : ctxId [] [3] = 0 := by decide
  have e1 : ctxT [] [3] = [[3]] := by decide
  rw [e0]
  rw [e1] at h2
  have HC2 := Aside0.mk h2
  clear HC HC1 HR B1 h2
  go_wp2_with fail
  refine (newNodes w w2 q HC2.out.bel).mono ?_
  rintro e w3 ⟨x, p, rfl, hN, b3, hx⟩
  have HC3 := Aside0.mk (HC2.out.box b3 hN.blk hx)
  clear HC2 hN b3 hx
  go_wp2_with fail
  refine (newNil w3).mono ?_
  rintro e w4 ⟨rfl, b4⟩
  have HC4 := Aside0.mk (HC3.out.below b4)
  clear HC3 b4
  go_wp2_with fail
  refine (name_var w _ q p1 p2 [[3]] [] _ x _ _ _ _ _ _ HC4.out (List.mem_cons_self) (HP.out.below HC4.out.bel) (fun t ht => by
    rw [List.mem_singleton] at ht
    subst ht
    exact ⟨by decide, by decide⟩) 0 5 2 (by decide) (by decide)).mono ?_
  rintro e w5 ⟨rfl, b5⟩
  rw [ex_name]
  go_wp2
  go_ret
  exact ⟨rfl, bel_trans HC4.out.bel b5⟩
end Go.Proofs.YtkbbliicijnpjaaDoor.Tx
end

/- Ve: nodes: Find. -/
section
namespace Go.Proofs.YtkbbliicijnpjaaDoor.Tx
open Go.RowKit Go.Proofs.YtkbbliicijnpjaaDoorW.PrintWords Go.Proofs.YtkbbliicijnpjaaDoorW.PrintLast Go.Proofs.YtkbbliicijnpjaaDoorW.PrintMore
open Go.Proofs.YtkbbliicijnpjaaDoor.Base Go.Proofs.YtkbbliicijnpjaaDoor.Map Go.Proofs.YtkbbliicijnpjaaDoor.Ca Go.Proofs.YtkbbliicijnpjaaDoor.Qu Go.Proofs.YtkbbliicijnpjaaDoor.In Go.Proofs.YtkbbliicijnpjaaDoor.Kx Go.Maps Go.Proofs.YtkbbliicijnpjaaDoor.PNodeIds
set_option linter.unusedVariables false

/-- a node's tuple -/
def tup (k a b c : Int) : List Int := [(pl k a b c).1, (pl k a b c).2.1, (pl k a b c).2.2.1, (pl k a b c).2.2.2.1]
def okN (k a b c : Int) : Bool := (pl k a b c).2.2.2.2
theorem pl_wf {k a b c : Int} (ha : (Lit.int .i64 a).wf = true) (hb : (Lit.int .i64 b).wf = true) (hc : (Lit.int .i64 c).wf = true) : ∀ x ∈ tup k a b c, (Lit.int .i64 x).wf = true := by
  have z : ∀ n : Int, 0 ≤ n → n ≤ 4 → (Lit.int .i64 n).wf = true := fun n h0 h4 => by
    have : n = 0 ∨ n = 1 ∨ n = 2 ∨ n = 3 ∨ n = 4 := by omega
    rcases this with rfl | rfl | rfl | rfl | rfl <;> decide
  intro x hx
  unfold tup pl at hx
  simp only [List.mem_cons, List.not_mem_nil, or_false] at hx
  by_cases h4 : k = 4
  · rw [if_pos h4] at hx
    rcases hx with hx | hx | hx | hx <;> rw [hx]
    · exact z 4 (by decide) (by decide)
    · exact ha
    · exact z 0 (by decide) (by decide)
    · exact z 0 (by decide) (by decide)
  rw [if_neg h4] at hx
  by_cases h1 : k = 1 ∨ k = 2 ∨ k = 3
  · rw [if_pos h1] at hx
    rcases hx with hx | hx | hx | hx <;> rw [hx]
    · exact z k (by omega) (by omega)
    · exact ha
    · exact hb
    · exact z 0 (by decide) (by decide)
  rw [if_neg h1] at hx
  by_cases h0 : k = 0
  · rw [if_pos h0] at hx
    rcases hx with hx | hx | hx | hx <;> rw [hx]
    · exact z 0 (by decide) (by decide)
    · exact ha
    · exact hb
    · exact hc
  · rw [if_neg h0] at hx
    rcases hx with hx | hx | hx | hx <;> rw [hx] <;> exact z 0 (by decide) (by decide)
/-- what Find tells -/
def findN (tl : List (List Int)) (k a b c : Int) : Int × Bool := if okN k a b c then findOf tl (tup k a b c) else (0, false)

set_option maxHeartbeats 4000000 in
set_option maxRecDepth 100000 in
theorem find_nk (w0 w : World) (x p q : Nat) (tl : List (List Int)) (k a b c : Int) (h : NK w0 w x p q tl) (ha : (Lit.int .i64 a).wf = true) (hb : (Lit.int .i64 b).wf = true) (hc : (Lit.int .i64 c).wf = true) :
    Calls Tryd.prog 32 #[.pointer (some ⟨x, 0, none⟩), .agg #[.int .i64 k, .int .i64 a, .int .i64 b, .int .i64 c]] w fun e w' => e = .returned (.tuple #[.int .i64 (findN tl k a b c).1, .bool (findN tl k a b c).2]) ∧ Below w.heap.size w w' := by
  have hwf := pl_wf (k := k) ha hb hc
  have HW := Aside0.mk hwf
  have H := Aside0.mk h
  have hxb := h.blk
  have HX := Aside0.mk hxb
  obtain ⟨r1, r2, r3, r4, r5, hpl⟩ : ∃ r1 r2 r3 r4 r5, pl k a b c = (r1, r2, r3, r4, r5) := ⟨_, _, _, _, _, rfl⟩
  have Hpl := Aside0.mk hpl
  obtain ⟨s1, s2, hs⟩ : ∃ s1 s2, findN tl k a b c = (s1, s2) := ⟨_, _, rfl⟩
  have Hs := Aside0.mk hs
  rw [hs]
  clear hs
  obtain ⟨g, hg⟩ : ∃ g, w.heap.size = g := ⟨_, rfl⟩
  have hwb : ∀ wb, w.alloc (.cells #[.int .i64 k, .int .i64 a, .int .i64 b, .int .i64 c] 46) = wb → wb.heap[g]? = some (.cells #[.int .i64 k, .int .i64 a, .int .i64 b, .int .i64 c] 46 (0, 0)) ∧ Below w.heap.size w wb := by
    rintro wb rfl
    subst hg
    exact ⟨heap_alloc_new _ _, below_alloc (Below.refl _ _) _⟩
  clear ha hb hc hwf h hxb hpl
  go_enter Tryd.func32, Tryd.ntmps32
  go_wp2_with fail
  have Hg := Aside0.mk hg
  clear hg
  generalize hqw : w.alloc (.cells #[.int .i64 k, .int .i64 a, .int .i64 b, .int .i64 c] 46) = wb
  obtain ⟨B0, hB⟩ := hwb wb hqw
  clear hwb hqw
  refine (plain_any _ _ _ _ _).mono ?_
  rintro e w1 ⟨rfl, h1⟩
  have B1 := blk_below' B0 h1
  have HB := Aside0.mk (below_then hB hB.size h1)
  have HBk := Aside0.mk B1
  have d0 := blk_cell B1 0
  have d1 := blk_cell B1 1
  have d2 := blk_cell B1 2
  have d3 := blk_cell B1 3
  have f0 := blk_frozen B1 0
  have f1 := blk_frozen B1 1
  have f2 := blk_frozen B1 2
  have f3 := blk_frozen B1 3
  rw [Hpl.out]
  clear B0 hB h1 B1
  cases r5 with
  | false =>
    have e1 : findN tl k a b c = (0, false) := by unfold findN okN; rw [Hpl.out]; rfl
    rw [Hs.out] at e1
    simp only [Prod.mk.injEq] at e1
    obtain ⟨rfl, rfl⟩ := e1
    have hge : w.heap.size ≤ g := Nat.le_of_eq Hg.out
    have PB := below_setCell (below_setCell (below_setCell (below_setCell HB.out (p := ⟨g, 0, none⟩) hge (.int .i64 r1)) (p := ⟨g, 1, none⟩) hge (.int .i64 r2)) (p := ⟨g, 2, none⟩) hge (.int .i64 r3)) (p := ⟨g, 3, none⟩) hge (.int .i64 r4)
    clear hge
    go_wp2
    refine bodyPost_ret (results_list (rs := [.tmp 4, .tmp 5]) rfl (by simp) (.tmp (.tmp .nil))) rfl ?_
    exact ⟨rfl, PB⟩
  | true =>
    go_upto_region 2 with (fail)
    have P0 := blk_put (blk_put (blk_put (blk_put HBk.out 0 (.int .i64 r1) rfl) 1 (.int .i64 r2) rfl) 2 (.int .i64 r3) rfl) 3 (.int .i64 r4) rfl
    have hge : w.heap.size ≤ g := Nat.le_of_eq Hg.out
    have PB := below_setCell (below_setCell (below_setCell (below_setCell HB.out (p := ⟨g, 0, none⟩) hge (.int .i64 r1)) (p := ⟨g, 1, none⟩) hge (.int .i64 r2)) (p := ⟨g, 2, none⟩) hge (.int .i64 r3)) (p := ⟨g, 3, none⟩) hge (.int .i64 r4)
    generalize (((w1.setCell ⟨g, 0, none⟩ (.int .i64 r1)).setCell ⟨g, 1, none⟩ (.int .i64 r2)).setCell ⟨g, 2, none⟩ (.int .i64 r3)).setCell ⟨g, 3, none⟩ (.int .i64 r4) = W at *
    clear d0 d1 d2 d3 f0 f1 f2 f3 hge HB HBk
    have HB := Aside0.mk PB
    have HN := Aside0.mk (H.out.below PB)
    have x1 := blk_cell (blk_below' HX.out PB) 1
    obtain ⟨F, hF⟩ := HN.out.tab
    have HF := Aside0.mk hF
    have g0 := blk_cell P0 0
    have g1 := blk_cell P0 1
    have g2 := blk_cell P0 2
    have g3 := blk_cell P0 3
    have e1 : findN tl k a b c = findOf tl [r1, r2, r3, r4] := by unfold findN okN tup; rw [Hpl.out]; rfl
    have htup : tup k a b c = [r1, r2, r3, r4] := by unfold tup; rw [Hpl.out]
    have HW2 := HW.out
    rw [htup] at HW2
    have HW3 := Aside0.mk HW2
    rw [Hs.out] at e1
    have Hs2 := Aside0.mk e1
    have HL : Aside0 (RdV (W.alloc (.cells #[.int .i64 r1, .int .i64 r2, .int .i64 r3, .int .i64 r4] 3)).drew (.slice (some ⟨W.heap.size, 0, none⟩) 4 4) [r1, r2, r3, r4]) := ⟨(OwI.lit W [r1, r2, r3, r4] (by simp)).toV.drew⟩
    clear P0 PB hF e1 htup HW2 HW Hpl
    have hbr := Below.refl W.heap.size W
    go_wp2_with fail
    go_region_held3 (fun w' => w'.cell? ⟨x, 1, none⟩ = some (.pointer (some ⟨p, 0, none⟩)) ∧ w'.cell? ⟨g, 0, none⟩ = some (.int .i64 r1) ∧ w'.cell? ⟨g, 1, none⟩ = some (.int .i64 r2) ∧ w'.cell? ⟨g, 2, none⟩ = some (.int .i64 r3) ∧ w'.cell? ⟨g, 3, none⟩ = some (.int .i64 r4) ∧ Below W.heap.size W w') (refine ⟨bel_cell (wb := W) ?_ x1, bel_cell (wb := W) ?_ g0, bel_cell (wb := W) ?_ g1, bel_cell (wb := W) ?_ g2, bel_cell (wb := W) ?_ g3, ?_⟩ <;> simp [*])
      (first
        | (go_at_call 60; (refine (find_any p F [] tl _ [r1, r2, r3, r4] _ (HF.out.below (by simp [*])) HL.out HW3.out).mono ?_); rintro e w5 ⟨rfl, h5⟩; rw [← Hs2.out]; have HB5 := bel_trans (wb := W) (by simp [*]) h5)
        | (fail))
    all_goals go_wp2_with fail
    refine bodyPost_ret (results_list (rs := [.tmp 4, .tmp 5]) rfl (by simp) (.tmp (.tmp .nil))) rfl ?_
    exact ⟨rfl, below_then HB.out HB.out.size HB5⟩
end Go.Proofs.YtkbbliicijnpjaaDoor.Tx
end
