import Derived.Test.YtmjafkhkoifopaaVM3
import Derived.Test.YtmjafkhkoifopaaVM4
import Derived.Defers
import Derived.Recover
section
/- The reader of code: what an image's bytes say, and where its reader stands. -/
namespace Go.Proofs.Ytmjafkhkoifopaa.C16
open Go.RowKit Go.Proofs.YtmjafkhkoifopaaW.PrintWords Go.Proofs.YtmjafkhkoifopaaW.PrintLast Go.Proofs.YtmjafkhkoifopaaW.PrintMore Go.Proofs.Ytmjafkhkoifopaa.PCodeDecodes
set_option linter.unusedVariables false
set_option linter.unusedSimpArgs false

/-! ### what is read -/
def pMany {α : Type} (p : List Int → Option (α × List Int)) : Nat → List Int → Option (List α × List Int)
  | 0, bs => some ([], bs)
  | n + 1, bs => (p bs).bind fun y => (pMany p n y.2).bind fun z => some (y.1 :: z.1, z.2)
def pExn (bs : List Int) : Option (S45 × List Int) := (pText bs).bind fun y => (pNum y.2).bind fun z => if z.1 = 0 ∨ z.1 = 1 then some (⟨y.1, z.1 == 1⟩, z.2) else none
/-- An image, as it is read. -/
structure Im where
  es : List S45
  ts : List ByteArray
  cs : List S43
def pEnd (es : List S45) (ts : List ByteArray) (cs : List S43) (q : List Int) : Option Im := if q = [] then some ⟨es, ts, cs⟩ else none
def pCode (es : List S45) (ts : List ByteArray) (bs : List Int) : Option Im := (pCount bs).bind fun y => (pMany pIns y.1 y.2).bind fun z => pEnd es ts z.1 z.2
def pTexts (es : List S45) (bs : List Int) : Option Im := (pCount bs).bind fun y => (pMany pText y.1 y.2).bind fun z => pCode es z.1 z.2
def pExns (bs : List Int) : Option Im := (pCount bs).bind fun y => (pMany pExn y.1 y.2).bind fun z => pTexts z.1 z.2
def pImage (bs : List Int) : Option Im := if bs.length < 2 then none else if strOfNums (bs.take 2) = ⟨#[71, 82]⟩ then pExns (bs.drop 2) else none

section
variable {α β : Type} {p : List Int → Option (α × List Int)} {K : List α → List Int → Option β} {res : Option β}
theorem round_none {n k : Nat} {ys : List α} {q : List Int} (hk : k < n) (h : ((pMany p (n - k) q).bind fun y => K (ys ++ y.1) y.2) = res) (hp : p q = none) : res = none := by
  obtain ⟨m, hm⟩ : ∃ m, n - k = m + 1 := ⟨n - k - 1, by omega⟩
  rw [hm, pMany, hp] at h
  exact h.symm
theorem round_some {n k : Nat} {ys : List α} {q q' : List Int} {x : α} (hk : k < n) (h : ((pMany p (n - k) q).bind fun y => K (ys ++ y.1) y.2) = res) (hp : p q = some (x, q')) : ((pMany p (n - (k + 1)) q').bind fun y => K ((ys ++ [x]) ++ y.1) y.2) = res := by
  obtain ⟨m, hm⟩ : ∃ m, n - k = m + 1 := ⟨n - k - 1, by omega⟩
  rw [hm, pMany, hp, Option.bind_some] at h
  rw [show n - (k + 1) = m by omega]
  cases hz : pMany p m q' with
  | none => rw [hz] at h; exact h
  | some z =>
    rw [hz] at h
    simp only [Option.bind_some] at h ⊢
    rw [List.append_assoc]
    exact h
theorem round_end {n k : Nat} {ys : List α} {q : List Int} (hk : ¬ k < n) (h : ((pMany p (n - k) q).bind fun y => K (ys ++ y.1) y.2) = res) : K ys q = res := by
  rw [show n - k = 0 by omega, pMany] at h
  simpa using h
end

theorem info43 : (Try.prog.info? 43).map (fun i => (i.zero, i.size, i.bytes)) = some (some (.agg #[.int .i64 0, .int .i64 0, .int .i64 0, .slice none 0 0, .slice none 0 0, .slice none 0 0]), 6, 96) := by kernel_rfl
theorem types45 {t : Nat} (h : t ≠ 45) : ∀ q, q ∈ 45 :: k45.E → q ≠ t := fun q hq => by
  have : q = 45 := by simpa [k45, Kd.iso, Kd.pair, Kd.string, Kd.bool, Kd.scalar] using hq
  omega
theorem types9 {t : Nat} (h : t ≠ 9) : ∀ q, q ∈ 9 :: Kd.string.E → q ≠ t := fun q hq => by
  have : q = 9 := by simpa [Kd.string, Kd.scalar] using hq
  omega
theorem types43 {t : Nat} (h : t ≠ 43) (h2 : t ≠ 2) (h3 : t ≠ 3) : ∀ q, q ∈ 43 :: k43.E → q ≠ t := fun q hq => by
  have : q = 43 ∨ q = 2 ∨ q = 3 := by simpa [k43, Kd.iso, Kd.pair, Kd.slice, Kd.int, Kd.scalar] using hq
  omega

/-- Where the reader of an image stands: the reader g has q before it; the image's cells lie in b, the answer's in a; the blocks Z are none of the exceptions' rows. -/
structure SI (w0 W w : World) (Z : Nat → Prop) (g a b : Nat) (q : List Int) (vE vT vC : Value) (es : List S45) (ts : List ByteArray) (cs : List S43) : Prop where
  rd : Rd w0 w g q
  kept : Kept W w (fun k => k = g)
  blk : w.heap[b]? = some (.cells #[vE, vT, vC] 26 (0, 0))
  res : w.heap[a]? = some (.cells #[.slice none 0 0, .slice none 0 0, .slice none 0 0] 26 (0, 0))
  new : W.heap.size ≤ b
  newa : W.heap.size ≤ a
  ne : a ≠ b
  big : w0.heap.size ≤ W.heap.size
  oE : Kd.R k45 45 w w0.heap.size (fun k => W.heap.size ≤ k ∧ ¬ Z k) vE es
  oT : Kd.R Kd.string 9 w w0.heap.size (fun k => W.heap.size ≤ k) vT ts
  oC : Kd.R k43 43 w w0.heap.size (fun k => W.heap.size ≤ k) vC cs
section
variable {w0 W w w' w1 : World} {Z : Nat → Prop} {g a b : Nat} {q q' : List Int} {vE vT vC : Value} {es : List S45} {ts : List ByteArray} {cs : List S43}
theorem SI.cells (h : SI w0 W w Z g a b q vE vT vC es ts cs) : (∀ j, w.cell? ⟨b, j, none⟩ = #[vE, vT, vC][j]?) ∧ (∀ j, w.frozen? ⟨b, j, none⟩ = false) :=
  ⟨fun j => blk_cell h.blk j, fun j => blk_frozen h.blk j⟩
theorem SI.weak (h : SI w0 W w Z g a b q vE vT vC es ts cs) : SI w0 W w (fun _ => False) g a b q vE vT vC es ts cs :=
  { h with oE := Kd.R_mono h.oE (fun k hk => ⟨hk.1, fun x => x⟩) }
theorem SI.call (h : SI w0 W w Z g a b q vE vT vC es ts cs) (hr : Rd w0 w' g q') (hk : Kept w w' (fun k => k = g)) : SI w0 W w' Z g a b q' vE vT vC es ts cs := by
  obtain ⟨_, A, c, hg, _⟩ := h.rd
  exact ⟨hr, h.kept.then_ hk (fun _ e => .inl e), blk_kept h.blk hk (h.rd.ne h.blk (by decide)), blk_kept h.res hk (h.rd.ne h.res (by decide)), h.new, h.newa, h.ne, h.big,
    Kd.R_mono (Kd.R_kept (Kd.R_types h.oE hg (types45 (by decide))) hk (fun k h1 h2 => h1.2 h2)) (fun _ h => h.1),
    Kd.R_mono (Kd.R_kept (Kd.R_types h.oT hg (types9 (by decide))) hk (fun k h1 h2 => h1.2 h2)) (fun _ h => h.1),
    Kd.R_mono (Kd.R_kept (Kd.R_types h.oC hg (types43 (by decide) (by decide) (by decide))) hk (fun k h1 h2 => h1.2 h2)) (fun _ h => h.1)⟩
theorem SI.fresh (h : SI w0 W w Z g a b q vE vT vC es ts cs) (o : Obj) : SI w0 W (w.alloc o) (fun k => k = w.heap.size) g a b q vE vT vC es ts cs :=
  ⟨h.rd.alloc o, h.kept.alloc o, blk_alloc h.blk o, blk_alloc h.res o, h.new, h.newa, h.ne, h.big,
    Kd.R_mono (Kd.R_alloc (Kd.R_bound h.oE) o) (fun k hk => ⟨hk.1.1, by have := hk.2.2.1; omega⟩), Kd.R_alloc h.oT o, Kd.R_alloc h.oC o⟩
theorem SI.drewN (h : SI w0 W w Z g a b q vE vT vC es ts cs) (n : Nat) : SI w0 W (w.drewN n) Z g a b q vE vT vC es ts cs :=
  ⟨h.rd.drewN n, h.kept, h.blk, h.res, h.new, h.newa, h.ne, h.big, Kd.R_drewN h.oE n, Kd.R_drewN h.oT n, Kd.R_drewN h.oC n⟩
theorem SI.drew (h : SI w0 W w Z g a b q vE vT vC es ts cs) : SI w0 W w.drew Z g a b q vE vT vC es ts cs := h.drewN 1
theorem SI.start {bs : List Int} {a : Nat} (h : Rd w0 w g q) (hk : Kept W w (fun k => k = g)) (hr : w.heap[a]? = some (.cells #[.slice none 0 0, .slice none 0 0, .slice none 0 0] 26 (0, 0))) (ha : W.heap.size ≤ a) (hW : w0.heap.size ≤ W.heap.size) :
    SI w0 W (w.alloc (.cells #[.slice none 0 0, .slice none 0 0, .slice none 0 0] 26)) (fun _ => False) g a w.heap.size q (.slice none 0 0) (.slice none 0 0) (.slice none 0 0) [] [] [] :=
  ⟨h.alloc _, hk.alloc _, blk_new _ _, blk_alloc hr _, hk.1, ha, by have := blk_lt hr; omega, hW, Kd.R_nil _ _ _ _ _, Kd.R_nil _ _ _ _ _, Kd.R_nil _ _ _ _ _⟩
/-- A store into a block of the exceptions' type that is none of their rows. -/
theorem SI.side {z : Nat} (h : SI w0 W w (fun k => k = z) g a b q vE vT vC es ts cs) {c : Array Value} (hz : w.heap[z]? = some (.cells c 45 (0, 0))) (hzW : W.heap.size ≤ z) (j : Nat) (u : Value) : SI w0 W (w.setCell ⟨z, j, none⟩ u) (fun k => k = z) g a b q vE vT vC es ts cs :=
  ⟨h.rd.far (h.rd.ne hz (by decide)) (Nat.le_trans h.big hzW) u, h.kept.setCell (.inr hzW) u, blk_far h.blk (blk_ne h.blk hz (by decide)) u, blk_far h.res (blk_ne h.res hz (by decide)) u, h.new, h.newa, h.ne, h.big,
    Kd.R_far h.oE (fun k hk => hk.2) u, Kd.R_set h.oT hz (types9 (by decide)) j u, Kd.R_set h.oC hz (types43 (by decide) (by decide) (by decide)) j u⟩
theorem SI.appE (h : SI w0 W w Z g a b q vE vT vC es ts cs) {v : Value} {xs : List S45} (ho : Kd.R k45 45 w1 w0.heap.size (fun k => W.heap.size ≤ k) v xs) (hg : w.grownBy w1 vE.ownBlock) (hb : Below w0.heap.size w0 w1) :
    SI w0 W (w1.setCell ⟨b, 0, none⟩ v) (fun _ => False) g a b q v vT vC xs ts cs := by
  have hn := Kd.R_ne h.oE h.rd.2.choose_spec.choose_spec.1 (by decide)
  obtain ⟨hx, A, c, hh, hc, hrr, hg0, _⟩ := h.rd
  have hrd : Rd w0 w1 g q := ⟨hx, A, c, blk_grown hh hg hn, hc, hrr, hg0, hb⟩
  have hbl := blk_grown h.blk hg (Kd.R_ne h.oE h.blk (by decide))
  have hT := Kd.R_over' h.oT (Kd.R_typed h.oE) (types9 (t := 45) (by decide)) hg
  have hC := Kd.R_over' h.oC (Kd.R_typed h.oE) (types43 (t := 45) (by decide) (by decide) (by decide)) hg
  exact ⟨hrd.far (hrd.ne hbl (by decide)) (Nat.le_trans h.big h.new) v, (Kept.of_grown hg h.kept (fun k e => .inr (h.oE.1 k e).1)).setCell (.inr h.new) v, by simpa using blk_set hbl 0 v,
    blk_far (blk_grown h.res hg (Kd.R_ne h.oE h.res (by decide))) h.ne v, h.new, h.newa, h.ne, h.big,
    Kd.R_mono (Kd.R_set ho hbl (types45 (by decide)) 0 v) (fun k hk => ⟨hk, fun x => x⟩), Kd.R_set hT hbl (types9 (by decide)) 0 v, Kd.R_set hC hbl (types43 (by decide) (by decide) (by decide)) 0 v⟩
theorem SI.appT (h : SI w0 W w Z g a b q vE vT vC es ts cs) {v : Value} {xs : List ByteArray} (ho : Kd.R Kd.string 9 w1 w0.heap.size (fun k => W.heap.size ≤ k) v xs) (hg : w.grownBy w1 vT.ownBlock) (hb : Below w0.heap.size w0 w1) :
    SI w0 W (w1.setCell ⟨b, 1, none⟩ v) (fun _ => False) g a b q vE v vC es xs cs := by
  have hn := Kd.R_ne h.oT h.rd.2.choose_spec.choose_spec.1 (by decide)
  obtain ⟨hx, A, c, hh, hc, hrr, hg0, _⟩ := h.rd
  have hrd : Rd w0 w1 g q := ⟨hx, A, c, blk_grown hh hg hn, hc, hrr, hg0, hb⟩
  have hbl := blk_grown h.blk hg (Kd.R_ne h.oT h.blk (by decide))
  have hE := Kd.R_over' h.oE (Kd.R_typed h.oT) (types45 (t := 9) (by decide)) hg
  have hC := Kd.R_over' h.oC (Kd.R_typed h.oT) (types43 (t := 9) (by decide) (by decide) (by decide)) hg
  exact ⟨hrd.far (hrd.ne hbl (by decide)) (Nat.le_trans h.big h.new) v, (Kept.of_grown hg h.kept (fun k e => .inr (h.oT.1 k e))).setCell (.inr h.new) v, by simpa using blk_set hbl 1 v,
    blk_far (blk_grown h.res hg (Kd.R_ne h.oT h.res (by decide))) h.ne v, h.new, h.newa, h.ne, h.big,
    Kd.R_mono (Kd.R_set hE hbl (types45 (by decide)) 1 v) (fun k hk => ⟨hk.1, fun x => x⟩), Kd.R_set ho hbl (types9 (by decide)) 1 v, Kd.R_set hC hbl (types43 (by decide) (by decide) (by decide)) 1 v⟩
theorem SI.appC (h : SI w0 W w Z g a b q vE vT vC es ts cs) {v : Value} {xs : List S43} (ho : Kd.R k43 43 w1 w0.heap.size (fun k => W.heap.size ≤ k) v xs) (hg : w.grownBy w1 vC.ownBlock) (hb : Below w0.heap.size w0 w1) :
    SI w0 W (w1.setCell ⟨b, 2, none⟩ v) (fun _ => False) g a b q vE vT v es ts xs := by
  have hn := Kd.R_ne h.oC h.rd.2.choose_spec.choose_spec.1 (by decide)
  obtain ⟨hx, A, c, hh, hc, hrr, hg0, _⟩ := h.rd
  have hrd : Rd w0 w1 g q := ⟨hx, A, c, blk_grown hh hg hn, hc, hrr, hg0, hb⟩
  have hbl := blk_grown h.blk hg (Kd.R_ne h.oC h.blk (by decide))
  have hE := Kd.R_over' h.oE (Kd.R_typed h.oC) (types45 (t := 43) (by decide)) hg
  have hT := Kd.R_over' h.oT (Kd.R_typed h.oC) (types9 (t := 43) (by decide)) hg
  exact ⟨hrd.far (hrd.ne hbl (by decide)) (Nat.le_trans h.big h.new) v, (Kept.of_grown hg h.kept (fun k e => .inr (h.oC.1 k e))).setCell (.inr h.new) v, by simpa using blk_set hbl 2 v,
    blk_far (blk_grown h.res hg (Kd.R_ne h.oC h.res (by decide))) h.ne v, h.new, h.newa, h.ne, h.big,
    Kd.R_mono (Kd.R_set hE hbl (types45 (by decide)) 2 v) (fun k hk => ⟨hk.1, fun x => x⟩), Kd.R_set hT hbl (types9 (by decide)) 2 v, Kd.R_set ho hbl (types43 (by decide) (by decide) (by decide)) 2 v⟩
/-- The answer is stored. -/
theorem SI.final (h : SI w0 W w Z g a b q vE vT vC es ts cs) (u0 u1 u2 : Value) :
    Rd w0 (((w.setCell ⟨a, 0, none⟩ u0).setCell ⟨a, 1, none⟩ u1).setCell ⟨a, 2, none⟩ u2) g q ∧
    Kept W (((w.setCell ⟨a, 0, none⟩ u0).setCell ⟨a, 1, none⟩ u1).setCell ⟨a, 2, none⟩ u2) (fun k => k = g) ∧
    Kd.R k45 45 (((w.setCell ⟨a, 0, none⟩ u0).setCell ⟨a, 1, none⟩ u1).setCell ⟨a, 2, none⟩ u2) w0.heap.size (fun k => W.heap.size ≤ k) vE es ∧
    Kd.R Kd.string 9 (((w.setCell ⟨a, 0, none⟩ u0).setCell ⟨a, 1, none⟩ u1).setCell ⟨a, 2, none⟩ u2) w0.heap.size (fun k => W.heap.size ≤ k) vT ts ∧
    Kd.R k43 43 (((w.setCell ⟨a, 0, none⟩ u0).setCell ⟨a, 1, none⟩ u1).setCell ⟨a, 2, none⟩ u2) w0.heap.size (fun k => W.heap.size ≤ k) vC cs := by
  have h1 := blk_set h.res 0 u0
  have h2 := blk_set h1 1 u1
  have hne := h.rd.ne h.res (by decide)
  have hw := Nat.le_trans h.big h.newa
  refine ⟨((h.rd.far (p := ⟨a, 0, none⟩) hne hw u0).far (p := ⟨a, 1, none⟩) hne hw u1).far (p := ⟨a, 2, none⟩) hne hw u2,
    ((h.kept.setCell (p := ⟨a, 0, none⟩) (.inr h.newa) u0).setCell (p := ⟨a, 1, none⟩) (.inr h.newa) u1).setCell (p := ⟨a, 2, none⟩) (.inr h.newa) u2, ?_, ?_, ?_⟩
  · exact Kd.R_mono (Kd.R_set (Kd.R_set (Kd.R_set h.oE h.res (types45 (by decide)) 0 u0) h1 (types45 (by decide)) 1 u1) h2 (types45 (by decide)) 2 u2) (fun _ h => h.1)
  · exact Kd.R_set (Kd.R_set (Kd.R_set h.oT h.res (types9 (by decide)) 0 u0) h1 (types9 (by decide)) 1 u1) h2 (types9 (by decide)) 2 u2
  · exact Kd.R_set (Kd.R_set (Kd.R_set h.oC h.res (types43 (by decide) (by decide) (by decide)) 0 u0) h1 (types43 (by decide) (by decide) (by decide)) 1 u1) h2 (types43 (by decide) (by decide) (by decide)) 2 u2
end
end Go.Proofs.Ytmjafkhkoifopaa.C16
end
section
/- The reader of code: an image, its head. -/
namespace Go.Proofs.Ytmjafkhkoifopaa.C16
open Go.RowKit Go.Proofs.YtmjafkhkoifopaaW.PrintWords Go.Proofs.YtmjafkhkoifopaaW.PrintLast Go.Proofs.YtmjafkhkoifopaaW.PrintMore Go.Proofs.Ytmjafkhkoifopaa.PCodeDecodes
set_option linter.unusedVariables false
set_option linter.unusedSimpArgs false

/-- What the reader of an image tells. -/
def Img (w0 W : World) (g : Nat) (res : Option Im) (e : Ending) (w' : World) : Prop := match res with
  | none => Gives w0 W g e w'
  | some i => ∃ vE vT vC, e = .returned (.agg #[vE, vT, vC]) ∧ Kd.R k45 45 w' w0.heap.size (fun k => W.heap.size ≤ k) vE i.es ∧ Kd.R Kd.string 9 w' w0.heap.size (fun k => W.heap.size ≤ k) vT i.ts ∧ Kd.R k43 43 w' w0.heap.size (fun k => W.heap.size ≤ k) vC i.cs ∧ Kept W w' (fun k => k = g) ∧ Below w0.heap.size w0 w'
theorem gr_list : (⟨#[71, 82]⟩ : ByteArray).toList = [71, 82] := by rw [ByteArray.toList_eq]
theorem gr_eq (s : ByteArray) : (s.toList == [71, 82]) = decide (s = ⟨#[71, 82]⟩) := by
  by_cases h : s = ⟨#[71, 82]⟩
  · rw [decide_eq_true h, h, gr_list]; rfl
  · rw [decide_eq_false h, ← gr_list]; exact bytes_ne h
theorem pText_len {bs r : List Int} {s : ByteArray} (h : pText bs = some (s, r)) : r.length ≤ bs.length := by
  unfold pText at h
  split at h
  · cases h
  · rename_i n q e
    split at h
    · cases h
    · cases h
      have := pNum_len e
      rw [List.length_drop]; omega
theorem image_short (w0 W : World) (g : Nat) (bs : List Int) (h : Rd w0 W g bs) (hs : bs.length < 2) : Calls Try.prog 32 #[.pointer (some ⟨g, 0, none⟩)] W fun e w' => Gives w0 W g e w' := by
  have H := Aside0.mk h
  clear h
  go_enter Try.func32, Try.ntmps32
  go_wp2_with (go_at_call 50; refine (take_bad w0 _ g bs 2 (H.out.alloc _) (.inr (by omega))).mono ?_; rintro e w' ⟨he, rfl⟩; cases he)
  exact ⟨rfl, rfl, (Kept.refl W (fun k => k = g)).alloc _, (H.out.alloc _).base.2.2⟩
theorem image_other (w0 W : World) (g : Nat) (bs : List Int) (h : Rd w0 W g bs) (hs : ¬ bs.length < 2) (hg : strOfNums (bs.take 2) ≠ ⟨#[71, 82]⟩) : Calls Try.prog 32 #[.pointer (some ⟨g, 0, none⟩)] W fun e w' => Gives w0 W g e w' := by
  have H := Aside0.mk h
  have hg1 : ((strOfNums (bs.take 2)).toList == [71, 82]) = false := by rw [gr_eq, decide_eq_false hg]
  clear h hg
  go_enter Try.func32, Try.ntmps32
  go_wp2_with (go_at_call 50; refine (take_ok w0 _ g bs 2 (H.out.alloc _) (by omega)).mono ?_; rintro e w1 ⟨A, c, rfl, hc, hr, hrd, hk⟩; have hs_ := Kd.C_string Try.underlying29 Try.underlying5 Try.underlying9 (Kd.C_below hr hrd.base.2.2) (c := c); have HR := Aside0.mk hrd; have HK := Aside0.mk (((Kept.refl W (fun k => k = g)).alloc _).then_ hk (fun _ e_ => .inl e_)); clear hk hrd hr hc)
  exact ⟨rfl, rfl, HK.out, HR.out.base.2.2⟩
end Go.Proofs.Ytmjafkhkoifopaa.C16
end
section
/- The reader of code: an image as a whole. -/
namespace Go.Proofs.Ytmjafkhkoifopaa.C16
open Go.RowKit Go.Proofs.YtmjafkhkoifopaaW.PrintWords Go.Proofs.YtmjafkhkoifopaaW.PrintLast Go.Proofs.YtmjafkhkoifopaaW.PrintMore Go.Proofs.Ytmjafkhkoifopaa.PCodeDecodes
set_option linter.unusedVariables false
set_option linter.unusedSimpArgs false

theorem pExn_text {q : List Int} (h : pText q = none) : pExn q = none := by unfold pExn; rw [h]; rfl
theorem pExn_num {q q2 : List Int} {s : ByteArray} (h : pText q = some (s, q2)) (h2 : pNum q2 = none) : pExn q = none := by unfold pExn; rw [h, Option.bind_some, h2]; rfl
theorem pExn_bad {q q2 q3 : List Int} {s : ByteArray} {x : Int} (h : pText q = some (s, q2)) (h2 : pNum q2 = some (x, q3)) (h3 : ¬ (x = 0 ∨ x = 1)) : pExn q = none := by unfold pExn; rw [h, Option.bind_some, h2, Option.bind_some, if_neg h3]
theorem pExn_ok {q q2 q3 : List Int} {s : ByteArray} {x : Int} (h : pText q = some (s, q2)) (h2 : pNum q2 = some (x, q3)) (h3 : x = 0 ∨ x = 1) : pExn q = some (⟨s, x == 1⟩, q3) := by unfold pExn; rw [h, Option.bind_some, h2, Option.bind_some, if_pos h3]
theorem SI.exn {w0 W w w3 : World} {Z : Nat → Prop} {g a b : Nat} {q q3 : List Int} {vE vT vC : Value} {es : List S45} {ts : List ByteArray} {cs : List S43} {s : ByteArray}
    (h : SI w0 W w Z g a b q vE vT vC es ts cs) (hr : Rd w0 w3 g q3) (hk : Kept (w.alloc (.cells #[.string s, .bool false] 45)) w3 (fun k => k = g)) :
    SI w0 W w3 (fun k => k = w.heap.size) g a b q3 vE vT vC es ts cs ∧ w3.heap[w.heap.size]? = some (.cells #[.string s, .bool false] 45 (0, 0)) :=
  have hb : (w.alloc (.cells #[.string s, .bool false] 45)).heap[w.heap.size]? = some (.cells #[.string s, .bool false] 45 (0, 0)) := blk_new w _
  ⟨(h.fresh _).call hr hk, blk_kept hb hk ((h.fresh _).rd.ne hb (by decide))⟩

theorem pIns_len {bs r : List Int} {x : S43} (h : pIns bs = some (x, r)) : r.length ≤ bs.length := by
  unfold pIns at h
  cases h0 : pNum bs with
  | none => rw [h0] at h; cases h
  | some p =>
    obtain ⟨x0, q⟩ := p
    have m0 := pNum_len h0
    rw [h0, Option.bind_some] at h
    replace h : pRest (fieldsOf (opOf x0)) (opOf x0) q = some (x, r) := h
    have hP : ∀ (n : Nat) {bs r l : List Int}, pPlaces n bs = some (l, r) → r.length ≤ bs.length := by
      intro n
      induction n with
      | zero => intro bs r l h; simp only [pPlaces] at h; cases h; omega
      | succ n ih =>
        intro bs r l h
        simp only [pPlaces] at h
        split at h
        · cases h
        · rename_i x q e
          split at h
          · cases h
          · rename_i l' r' e'
            cases h
            have := ih e'
            have := pNum_len e
            omega
    have hO : ∀ (c : Bool) {bs r : List Int} {x : Int}, optNum c bs = some (x, r) → r.length ≤ bs.length := by
      intro c bs r x h
      unfold optNum at h
      split at h
      · exact pNum_len h
      · cases h; omega
    have hL : ∀ (c : Bool) {bs r x : List Int}, optList c bs = some (x, r) → r.length ≤ bs.length := by
      intro c bs r x h
      unfold optList at h
      split at h
      · exact pList_len h
      · cases h; omega
    have hW : ∀ (f : Int) {bs r : List Int} {x : Nat}, pWay f bs = some (x, r) → r.length ≤ bs.length := by
      intro f bs r x h
      unfold pWay at h
      split at h
      · exact pCount_len h
      · cases h; omega
    generalize opOf x0 = op at h
    generalize fieldsOf op = f at h
    unfold pRest at h
    by_cases hf : (f == -1) = true
    · rw [if_pos hf] at h
      cases h
    · rw [if_neg hf] at h
      simp only [Option.bind_eq_some_iff] at h
      obtain ⟨a1, e1, a2, e2, a3, e3, a4, e4, a5, e5, a6, e6, h⟩ := h
      cases h
      have := hO _ e1
      have := hO _ e2
      have := hL _ e3
      have := hL _ e4
      have := hW _ e5
      have := hP _ e6
      omega
theorem ins_made {ok ok' : Nat → Prop} {w : World} {base : Nat} {x : S43} {v3 v4 v5 : Value} (h3 : Kd.R (Kd.int .i64) 2 w base ok v3 x.f3) (h4 : Kd.R (Kd.int .i64) 2 w base ok v4 x.f4) (h5 : Kd.R (Kd.int .i64) 3 w base ok v5 x.f5) (hk : ∀ k, ok k → ok' k) :
    ∃ okp : Nat → Prop, k43.M w base okp x [.int .i64 x.f0, .int .i64 x.f1, .int .i64 x.f2, v3, v4, v5] ∧ ∀ k, okp k → ok' k := ⟨ok, k43_mkM _ _ _ x h3 h4 h5, hk⟩
theorem ins_apart {w0 W w : World} {Z : Nat → Prop} {g a b : Nat} {q : List Int} {vE vT vC : Value} {es : List S45} {ts : List ByteArray} {cs : List S43} (h : SI w0 W w Z g a b q vE vT vC es ts cs) : ∀ k, w.heap.size ≤ k → W.heap.size ≤ k ∧ some k ≠ vC.ownBlock :=
  fun k hk => ⟨Nat.le_trans h.kept.1 hk, fun e => by have := Kd.R_lt h.oC k e.symm; omega⟩

set_option maxRecDepth 100000 in
set_option maxHeartbeats 4000000 in
theorem image_go (w0 W : World) (g : Nat) (bs : List Int) (h : Rd w0 W g bs) (hlen : bs.length ≤ 1048576) (hs : ¬ bs.length < 2) (hg : strOfNums (bs.take 2) = ⟨#[71, 82]⟩) (n : Nat) (q : List Int) (hn : pCount (bs.drop 2) = some (n, q)) (res : Option Im) (hres : ((pMany pExn n q).bind fun z => pTexts z.1 z.2) = res) :
    Calls Try.prog 32 #[.pointer (some ⟨g, 0, none⟩)] W fun e w' => Img w0 W g res e w' := by
  have H := Aside0.mk h
  have HW := Aside0.mk h.base.2.2.size
  have HN := Aside0.mk hn
  have HP := Aside0.mk hres
  have mn_ := pCount_le hn
  have ml := pCount_len hn
  rw [List.length_drop] at mn_ ml
  have ml' : q.length ≤ bs.length := by omega
  have mn' : n ≤ bs.length := by omega
  clear ml mn_
  have hg1 : ((strOfNums (bs.take 2)).toList == [71, 82]) = true := by rw [gr_eq, decide_eq_true hg]
  clear h hg hn hres
  go_enter Try.func32, Try.ntmps32
  go_wp2_with (first
    | (go_at_call 50; refine (take_ok w0 _ g bs 2 (H.out.alloc _) (by omega)).mono ?_; rintro e w1 ⟨A, c, rfl, hc, hr, hrd, hk⟩; have hs_ := Kd.C_string Try.underlying29 Try.underlying5 Try.underlying9 (Kd.C_below hr hrd.base.2.2) (c := c); have HR := Aside0.mk hrd; have HK := Aside0.mk (((Kept.refl W (fun k => k = g)).alloc _).then_ hk (fun _ e_ => .inl e_)); have HA := Aside0.mk (blk_kept (blk_new W _) hk (by have := H.out.base.2.1; omega)); clear hk hrd hr hc)
    | (go_at_call 51; refine (cnt_some w0 _ g (bs.drop 2) (SI.start (bs := bs) HR.out HK.out HA.out (Nat.le_refl _) HW.out).rd n q HN.out).mono ?_; rintro e w2 ⟨rfl, hrd, hk⟩; have HS0 := Aside0.mk ((SI.start (bs := bs) HR.out HK.out HA.out (Nat.le_refl _) HW.out).call hrd hk); clear hrd hk HR HK HA))
  go_loopw [14] (fun i wr => ∃ (k : Nat) (ys : List S45) (q' : List Int) (v : Value), k ≤ n ∧ i = .int .i64 k ∧ Aside0 (((pMany pExn (n - k) q').bind fun y => pTexts (ys ++ y.1) y.2) = res) ∧ Aside0 (ys.length ≤ k) ∧ Aside0 (q'.length ≤ bs.length) ∧ Aside0 (SI w0 W wr (fun _ => False) g W.heap.size w1.heap.size q' v (.slice none 0 0) (.slice none 0 0) ys [] []))
    (fun i _ => n - (intOf i).toNat)
  case atStart => exact ⟨0, [], q, .slice none 0 0, Nat.zero_le _, rfl, HP, ⟨Nat.le_refl _⟩, ⟨ml'⟩, HS0⟩
  case round =>
    clear HS0 HP
    obtain ⟨k, ys, q', v, hk, rfl, HP, HY, HQ, HS⟩ := hrel
    by_cases hlt : k < n
    · cases ht : pText q' with
      | none =>
        obtain rfl : res = none := round_none hlt HP.out (pExn_text ht)
        have HT := Aside0.mk ht
        clear ht
        go_wp2_with (go_at_call 52; refine (text_none w0 _ g q' HS.out.rd HT.out).mono ?_; rintro e w3 ⟨he, hk3, hb3⟩; cases he; have HK3 := Aside0.mk (HS.out.kept.then_ hk3 (fun _ e_ => .inl e_)); have HB3 := Aside0.mk hb3; clear hk3 hb3)
        exact ⟨rfl, rfl, HK3.out, HB3.out⟩
      | some p =>
        obtain ⟨s, q2⟩ := p
        have HT := Aside0.mk ht
        cases hx : pNum q2 with
        | none =>
          obtain rfl : res = none := round_none hlt HP.out (pExn_num ht hx)
          have HX := Aside0.mk hx
          clear ht hx
          go_wp2_with (first
            | (go_at_call 52; refine (text_some w0 _ g q' HS.out.rd s q2 HT.out).mono ?_; rintro e w3 ⟨rfl, hrd, hk3⟩; have HS3 := Aside0.mk (HS.out.call hrd hk3); clear hk3 hrd HS)
            | (go_at_call 53; refine (num_none w0 _ g q2 (HS3.out.fresh _).rd HX.out).mono ?_; rintro e w4 ⟨he, hk4, hb4⟩; cases he; have HK4 := Aside0.mk ((HS3.out.fresh _).kept.then_ hk4 (fun _ e_ => .inl e_)); have HB4 := Aside0.mk hb4; clear hk4 hb4))
          exact ⟨rfl, rfl, HK4.out, HB4.out⟩
        | some p2 =>
          obtain ⟨x, q3⟩ := p2
          have HX := Aside0.mk hx
          by_cases h01 : x = 0 ∨ x = 1
          · skip
            rcases h01 with rfl | rfl
            · have HP2 := Aside0.mk (round_some hlt HP.out (pExn_ok ht hx (by decide)))
              have HL : Aside0 (q3.length ≤ q'.length) := ⟨by have := pText_len ht; have := pNum_len hx; omega⟩
              clear ht hx
              go_wp2_with (first
                | (go_at_call 52; refine (text_some w0 _ g q' HS.out.rd s q2 HT.out).mono ?_; rintro e w3 ⟨rfl, hrd, hk3⟩; have HS3 := Aside0.mk (HS.out.call hrd hk3); clear hk3 hrd HS)
                | (go_at_call 53; refine (num_some w0 _ g q2 (HS3.out.fresh _).rd 0 q3 HX.out).mono ?_; rintro e w4 ⟨rfl, hrd4, hk4⟩; have HS4 := Aside0.mk (HS3.out.exn hrd4 hk4); clear hk4 hrd4; have HZ := Aside0.mk (HS3.out.kept.1); clear HS3; obtain ⟨hc, hz⟩ := (HS4.out.1.side HS4.out.2 HZ.out 1 (.bool false)).cells; have hd := fun j => blk_cell HS4.out.2 j; have hf := fun j => blk_frozen HS4.out.2 j; have hd2 := fun j => blk_cell (blk_set HS4.out.2 1 (.bool false)) j)
                | (at_builtin; have HS5 := Aside0.mk ((HS4.out.1.side HS4.out.2 HZ.out 1 (.bool false)).weak); refine Kd.R_append k45 (w0 := w0) w0.heap.size rfl (.tmp 33) (.tmp 35) 22 45 (.agg #[.string ⟨#[]⟩, .bool false]) 24 rfl Try.underlying22 info45 rfl (by decide) (by omega) v ys ⟨s, false⟩ [.string s, .bool false] (fun k => W.heap.size ≤ k) (fun _ => False) rfl ?aX ?aP (fun _ hk => hk.elim) ?aF ?aO ?aB ?aS ?aL ?_; (case aX => exact (congrArg (fun m => Value.slice (some ⟨m, 0, none⟩) 1 1) (World.size_setCell w4 _ _).symm)); (case aP => exact k45_mkM _ _ _ ⟨s, false⟩); (case aF => exact (fun k h => Nat.le_trans HS5.out.kept.1 h)); (case aO => exact Kd.R_mono HS5.out.oE (fun _ h => h.1)); (case aB => exact HS5.out.rd.base.2.2); (case aS => exact HS5.out.rd.base.2.2.size); (case aL => have := HY.out; omega); intro v1 w5 ho hb hg hat; obtain ⟨A5, c5, rfl⟩ := Kd.R_slice ho; rw [show ∀ z : S45, (ys ++ [z]).length = ys.length + 1 from fun z => List.length_append] at ho hat; have HS6 := Aside0.mk (HS5.out.appE ho hg hb); have hz6 := fun j => blk_frozen (blk_grown HS5.out.blk hg (Kd.R_ne HS5.out.oE HS5.out.blk (by decide))) j; have hc6 := fun j => blk_cell (blk_grown HS5.out.blk hg (Kd.R_ne HS5.out.oE HS5.out.blk (by decide))) j; clear ho hb hg hat hc hz hd hf hd2))
              go_roundw
              case rel => exact ⟨k + 1, ys ++ [⟨s, false⟩], q3, _, by omega, by go_num, HP2, ⟨by have := HY.out; simp; omega⟩, ⟨by have := HQ.out; have := HL.out; omega⟩, HS6⟩
              case measure => simp [intOf]; omega
            · have HP2 := Aside0.mk (round_some hlt HP.out (pExn_ok ht hx (by decide)))
              have HL : Aside0 (q3.length ≤ q'.length) := ⟨by have := pText_len ht; have := pNum_len hx; omega⟩
              clear ht hx
              go_wp2_with (first
                | (go_at_call 52; refine (text_some w0 _ g q' HS.out.rd s q2 HT.out).mono ?_; rintro e w3 ⟨rfl, hrd, hk3⟩; have HS3 := Aside0.mk (HS.out.call hrd hk3); clear hk3 hrd HS)
                | (go_at_call 53; refine (num_some w0 _ g q2 (HS3.out.fresh _).rd 1 q3 HX.out).mono ?_; rintro e w4 ⟨rfl, hrd4, hk4⟩; have HS4 := Aside0.mk (HS3.out.exn hrd4 hk4); clear hk4 hrd4; have HZ := Aside0.mk (HS3.out.kept.1); clear HS3; obtain ⟨hc, hz⟩ := (HS4.out.1.side HS4.out.2 HZ.out 1 (.bool true)).cells; have hd := fun j => blk_cell HS4.out.2 j; have hf := fun j => blk_frozen HS4.out.2 j; have hd2 := fun j => blk_cell (blk_set HS4.out.2 1 (.bool true)) j)
                | (at_builtin; have HS5 := Aside0.mk ((HS4.out.1.side HS4.out.2 HZ.out 1 (.bool true)).weak); refine Kd.R_append k45 (w0 := w0) w0.heap.size rfl (.tmp 33) (.tmp 35) 22 45 (.agg #[.string ⟨#[]⟩, .bool false]) 24 rfl Try.underlying22 info45 rfl (by decide) (by omega) v ys ⟨s, true⟩ [.string s, .bool true] (fun k => W.heap.size ≤ k) (fun _ => False) rfl ?aX ?aP (fun _ hk => hk.elim) ?aF ?aO ?aB ?aS ?aL ?_; (case aX => exact (congrArg (fun m => Value.slice (some ⟨m, 0, none⟩) 1 1) (World.size_setCell w4 _ _).symm)); (case aP => exact k45_mkM _ _ _ ⟨s, true⟩); (case aF => exact (fun k h => Nat.le_trans HS5.out.kept.1 h)); (case aO => exact Kd.R_mono HS5.out.oE (fun _ h => h.1)); (case aB => exact HS5.out.rd.base.2.2); (case aS => exact HS5.out.rd.base.2.2.size); (case aL => have := HY.out; omega); intro v1 w5 ho hb hg hat; obtain ⟨A5, c5, rfl⟩ := Kd.R_slice ho; rw [show ∀ z : S45, (ys ++ [z]).length = ys.length + 1 from fun z => List.length_append] at ho hat; have HS6 := Aside0.mk (HS5.out.appE ho hg hb); have hz6 := fun j => blk_frozen (blk_grown HS5.out.blk hg (Kd.R_ne HS5.out.oE HS5.out.blk (by decide))) j; have hc6 := fun j => blk_cell (blk_grown HS5.out.blk hg (Kd.R_ne HS5.out.oE HS5.out.blk (by decide))) j; clear ho hb hg hat hc hz hd hf hd2))
              go_roundw
              case rel => exact ⟨k + 1, ys ++ [⟨s, true⟩], q3, _, by omega, by go_num, HP2, ⟨by have := HY.out; simp; omega⟩, ⟨by have := HQ.out; have := HL.out; omega⟩, HS6⟩
              case measure => simp [intOf]; omega
          · obtain rfl : res = none := round_none hlt HP.out (pExn_bad ht hx h01)
            have x0 : (x != 0) = true := by simp; omega
            have x1 : (x != 1) = true := by simp; omega
            clear ht hx
            go_wp2_with (first
              | (go_at_call 52; refine (text_some w0 _ g q' HS.out.rd s q2 HT.out).mono ?_; rintro e w3 ⟨rfl, hrd, hk3⟩; have HS3 := Aside0.mk (HS.out.call hrd hk3); clear hk3 hrd HS)
              | (go_at_call 53; refine (num_some w0 _ g q2 (HS3.out.fresh _).rd x q3 HX.out).mono ?_; rintro e w4 ⟨rfl, hrd4, hk4⟩; have HS4 := Aside0.mk (HS3.out.exn hrd4 hk4); clear hk4 hrd4))
            exact ⟨rfl, rfl, HS4.out.1.kept, HS4.out.1.rd.base.2.2⟩
    · have hp := round_end hlt HP.out
      clear HP
      obtain ⟨AE, cE, rfl⟩ := Kd.R_slice HS.out.oE
      have hqb := HQ.out
      clear HQ
      cases hm : pCount q' with
      | none =>
        obtain rfl : res = none := by rw [← hp]; unfold pTexts; rw [hm]; rfl
        have HM := Aside0.mk hm
        clear hm hp
        go_wp2_with (go_at_call 51; refine (cnt_none w0 _ g q' HS.out.rd HM.out).mono ?_; rintro e w3 ⟨he, hk3, hb3⟩; cases he; have HK3 := Aside0.mk (HS.out.kept.then_ hk3 (fun _ e_ => .inl e_)); have HB3 := Aside0.mk hb3; clear hk3 hb3)
        exact ⟨rfl, rfl, HK3.out, HB3.out⟩
      | some p =>
        obtain ⟨m, q2⟩ := p
        have HP := Aside0.mk (show ((pMany pText m q2).bind fun z => pCode ys z.1 z.2) = res by rw [← hp]; unfold pTexts; rw [hm]; rfl)
        have HM := Aside0.mk hm
        have mm := pCount_le hm
        have ml2 := pCount_len hm
        clear hm hp
        have mm' : m ≤ bs.length := by omega
        have ml2' : q2.length ≤ bs.length := by omega
        clear mm ml2 hqb
        go_wp2_with (go_at_call 51; refine (cnt_some w0 _ g q' HS.out.rd m q2 HM.out).mono ?_; rintro e w3 ⟨rfl, hrd, hk3⟩; have HS0 := Aside0.mk (HS.out.call hrd hk3); clear hrd hk3 HS)
        go_loopw [41] (fun i wr => ∃ (j : Nat) (zs : List ByteArray) (q3 : List Int) (v : Value), j ≤ m ∧ i = .int .i64 j ∧ Aside0 (((pMany pText (m - j) q3).bind fun y => pCode ys (zs ++ y.1) y.2) = res) ∧ Aside0 (zs.length ≤ j) ∧ Aside0 (q3.length ≤ bs.length) ∧ Aside0 (SI w0 W wr (fun _ => False) g W.heap.size w1.heap.size q3 (.slice AE ys.length cE) v (.slice none 0 0) ys zs []))
          (fun i _ => m - (intOf i).toNat)
        case atStart => exact ⟨0, [], q2, .slice none 0 0, Nat.zero_le _, rfl, HP, ⟨Nat.le_refl _⟩, ⟨ml2'⟩, HS0⟩
        case round =>
          clear HS0 HP
          obtain ⟨j, zs, q3, v, hj, rfl, HP, HY2, HQ, HS⟩ := hrel
          by_cases hlt2 : j < m
          · cases ht : pText q3 with
            | none =>
              obtain rfl : res = none := round_none hlt2 HP.out ht
              have HT := Aside0.mk ht
              clear ht
              obtain ⟨hc, hz⟩ := HS.out.cells
              go_wp2
              refine wp_region_any (by kernel_rfl) ?_
              change wpAny _ _ _ _ _ _ _ (World.drew _)
              refine wpAny_take (i := 0) (v := ?_) rfl (by kernel_rfl) (by kernel_rfl) (by kernel_rfl) (fun _ _ _ h => h) (Or.inl ⟨by rfl, ?_⟩) ?_
              rotate_left
              · intro w; go_simp
                try with_reducible rfl
              refine wpAny_take (i := 2) (v := ?_) rfl (by kernel_rfl) (by kernel_rfl) (by kernel_rfl) (fun _ _ _ h => h) (Or.inl ⟨by rfl, ?_⟩) ?_
              rotate_left
              · intro w; go_simp
                try with_reducible rfl
              refine wpAny_ready (rs := [1, 3]) (by kernel_rfl) (by simp) ?_
              refine AllReady.cons rfl (fun K hK => ?_) (AllReady.cons rfl (fun K hK => ?_) AllReady.nil)
              · go_simp
                refine hK _ _ ?_
                clear hK K
                refine wpAny_ready (rs := [3]) (by kernel_rfl) (by simp) ?_
                refine AllReady.cons rfl (fun K hK => ?_) AllReady.nil
                go_simp
                refine (text_none w0 _ g q3 HS.out.drew.rd HT.out).mono ?_; rintro e w9 ⟨he, hk9, hb9⟩; cases he; have HK9 := Aside0.mk (HS.out.drew.kept.then_ hk9 (fun _ e_ => .inl e_)); have HB9 := Aside0.mk hb9; clear hk9 hb9; exact ⟨rfl, rfl, HK9.out, HB9.out⟩
              · go_simp
                refine (text_none w0 _ g q3 HS.out.drew.rd HT.out).mono ?_; rintro e w9 ⟨he, hk9, hb9⟩; cases he; have HK9 := Aside0.mk (HS.out.drew.kept.then_ hk9 (fun _ e_ => .inl e_)); have HB9 := Aside0.mk hb9; clear hk9 hb9; exact ⟨rfl, rfl, HK9.out, HB9.out⟩
            | some p =>
              obtain ⟨s, q4⟩ := p
              have HP2 := Aside0.mk (round_some hlt2 HP.out ht)
              have HL : Aside0 (q4.length ≤ q3.length) := ⟨pText_len ht⟩
              have HT := Aside0.mk ht
              clear ht HP
              obtain ⟨hc, hz⟩ := HS.out.cells
              go_wp2
              go_region_law (first
                | (refine goes_ (f := 52) Try.func52 (by kernel_rfl) rfl #[.pointer (some ⟨g, 0, none⟩)] (by rfl) rfl rfl (by simp [Act.eval, Act.put]) ?_; refine (text_some w0 _ g q3 HS.out.drew.rd s q4 HT.out).mono ?_; rintro e w4 ⟨rfl, hrd, hk2⟩; refine ⟨_, rfl, ?_⟩; have HS2 := Aside0.mk (HS.out.drew.call hrd hk2); clear hk2 hrd hc hz; obtain ⟨hc, hz⟩ := HS2.out.cells; have hc5 : ∀ o, (w4.alloc o).cell? ⟨w1.heap.size, 1, none⟩ = some v := cell_alloc ((hc 1).trans rfl))
                | (refine Kd.R_append_step Kd.string (w0 := w0) w0.heap.size (by rfl) (.tmp 44) (.tmp 47) 23 9 (.string ⟨#[]⟩) 16 rfl Try.underlying23 info9 rfl (by decide) (by omega) v zs s [.string s] (fun k => W.heap.size ≤ k) (fun _ => False) (by rfl) (by rfl) ?aP (fun _ hk => hk.elim) ?aF ?aO ?aB ?aS ?aL ?_; (case aP => exact rfl); (case aF => exact (fun k h => Nat.le_trans HS2.out.kept.1 h)); (case aO => exact HS2.out.oT); (case aB => exact HS2.out.rd.base.2.2); (case aS => exact HS2.out.rd.base.2.2.size); (case aL => have := HY2.out; omega); intro v1 w5 ho hb hg hat; obtain ⟨A5, c5, rfl⟩ := Kd.R_slice ho; rw [show (zs ++ [s]).length = zs.length + 1 from List.length_append] at ho hat; have HS3 := Aside0.mk (HS2.out.appT ho hg hb); have hbl := blk_grown HS2.out.blk hg (Kd.R_ne HS2.out.oT HS2.out.blk (by decide)); have hz6 := fun j => blk_frozen hbl j; have hc6 := fun j => blk_cell hbl j; clear ho hb hg hat hc hz hc5 hbl))
              all_goals
                go_wp2
                go_roundw
                case rel => exact ⟨j + 1, zs ++ [s], q4, _, by omega, by go_num, HP2, ⟨by have := HY2.out; simp; omega⟩, ⟨by have := HQ.out; have := HL.out; omega⟩, HS3⟩
                case measure => simp [intOf]; omega
          · have hp := round_end hlt2 HP.out
            clear HP
            obtain ⟨AT, cT, rfl⟩ := Kd.R_slice HS.out.oT
            have hqb := HQ.out
            clear HQ
            cases hl : pCount q3 with
            | none =>
              obtain rfl : res = none := by rw [← hp]; unfold pCode; rw [hl]; rfl
              have HM := Aside0.mk hl
              clear hl hp
              go_wp2_with (go_at_call 51; refine (cnt_none w0 _ g q3 HS.out.rd HM.out).mono ?_; rintro e w3 ⟨he, hk3, hb3⟩; cases he; have HK3 := Aside0.mk (HS.out.kept.then_ hk3 (fun _ e_ => .inl e_)); have HB3 := Aside0.mk hb3; clear hk3 hb3)
              exact ⟨rfl, rfl, HK3.out, HB3.out⟩
            | some p =>
              obtain ⟨l, q4⟩ := p
              have HP := Aside0.mk (show ((pMany pIns l q4).bind fun z => pEnd ys zs z.1 z.2) = res by rw [← hp]; unfold pCode; rw [hl]; rfl)
              have HM := Aside0.mk hl
              have mm := pCount_le hl
              have ml2 := pCount_len hl
              clear hl hp
              have mm2 : l ≤ bs.length := by omega
              have ml3 : q4.length ≤ bs.length := by omega
              clear mm ml2 hqb
              go_wp2_with (go_at_call 51; refine (cnt_some w0 _ g q3 HS.out.rd l q4 HM.out).mono ?_; rintro e w4 ⟨rfl, hrd, hk3⟩; have HS0 := Aside0.mk (HS.out.call hrd hk3); clear hrd hk3 HS)
              go_loopw [53] (fun i wr => ∃ (t : Nat) (xs : List S43) (q5 : List Int) (v : Value), t ≤ l ∧ i = .int .i64 t ∧ Aside0 (((pMany pIns (l - t) q5).bind fun y => pEnd ys zs (xs ++ y.1) y.2) = res) ∧ Aside0 (xs.length ≤ t) ∧ Aside0 (q5.length ≤ bs.length) ∧ Aside0 (SI w0 W wr (fun _ => False) g W.heap.size w1.heap.size q5 (.slice AE ys.length cE) (.slice AT zs.length cT) v ys zs xs))
                (fun i _ => l - (intOf i).toNat)
              case atStart => exact ⟨0, [], q4, .slice none 0 0, Nat.zero_le _, rfl, HP, ⟨Nat.le_refl _⟩, ⟨ml3⟩, HS0⟩
              case round =>
                clear HS0 HP
                obtain ⟨t, xs, q5, v, ht, rfl, HP, HY3, HQ, HS⟩ := hrel
                by_cases hlt3 : t < l
                · cases hx : pIns q5 with
                  | none =>
                    obtain rfl : res = none := round_none hlt3 HP.out hx
                    have HX := Aside0.mk hx
                    have hin := ins_is w0 _ g q5 HS.out.drew.rd (by have := HQ.out; omega)
                    rw [hx] at hin
                    have HIN := Aside0.mk hin
                    clear hx hin
                    obtain ⟨hc, hz⟩ := HS.out.cells
                    go_wp2
                    refine wp_region_any (by kernel_rfl) ?_
                    change wpAny _ _ _ _ _ _ _ (World.drew _)
                    refine wpAny_take (i := 0) (v := ?_) rfl (by kernel_rfl) (by kernel_rfl) (by kernel_rfl) (fun _ _ _ h => h) (Or.inl ⟨by rfl, ?_⟩) ?_
                    rotate_left
                    · intro w; go_simp
                      try with_reducible rfl
                    refine wpAny_take (i := 2) (v := ?_) rfl (by kernel_rfl) (by kernel_rfl) (by kernel_rfl) (fun _ _ _ h => h) (Or.inl ⟨by rfl, ?_⟩) ?_
                    rotate_left
                    · intro w; go_simp
                      try with_reducible rfl
                    refine wpAny_ready (rs := [1, 3]) (by kernel_rfl) (by simp) ?_
                    refine AllReady.cons rfl (fun K hK => ?_) (AllReady.cons rfl (fun K hK => ?_) AllReady.nil)
                    · go_simp
                      refine hK _ _ ?_
                      clear hK K
                      refine wpAny_ready (rs := [3]) (by kernel_rfl) (by simp) ?_
                      refine AllReady.cons rfl (fun K hK => ?_) AllReady.nil
                      go_simp
                      refine HIN.out.mono ?_; rintro e w9 ⟨he, hk9, hb9⟩; cases he; have HK9 := Aside0.mk (HS.out.drew.kept.then_ hk9 (fun _ e_ => .inl e_)); have HB9 := Aside0.mk hb9; clear hk9 hb9; exact ⟨rfl, rfl, HK9.out, HB9.out⟩
                    · go_simp
                      refine HIN.out.mono ?_; rintro e w9 ⟨he, hk9, hb9⟩; cases he; have HK9 := Aside0.mk (HS.out.drew.kept.then_ hk9 (fun _ e_ => .inl e_)); have HB9 := Aside0.mk hb9; clear hk9 hb9; exact ⟨rfl, rfl, HK9.out, HB9.out⟩
                  | some p =>
                    obtain ⟨x, q6⟩ := p
                    have HP2 := Aside0.mk (round_some hlt3 HP.out hx)
                    have hin := ins_is w0 _ g q5 HS.out.drew.rd (by have := HQ.out; omega)
                    rw [hx] at hin
                    have HIN := Aside0.mk hin
                    have HL : Aside0 (q6.length ≤ q5.length) := ⟨pIns_len hx⟩
                    clear hx HP hin
                    obtain ⟨hc, hz⟩ := HS.out.cells
                    go_wp2
                    go_region_law (first
                      | (refine goes_ (f := 54) Try.func54 (by kernel_rfl) rfl #[.pointer (some ⟨g, 0, none⟩)] (by rfl) rfl rfl (by simp [Act.eval, Act.put]) ?_; refine HIN.out.mono ?_; rintro e w5 ⟨_, rfl, ⟨v3, v4, v5, rfl, h3, h4, h5⟩, hrd, hk2⟩; obtain ⟨A3, c3, rfl⟩ := Kd.R_slice h3; obtain ⟨A4, c4, rfl⟩ := Kd.R_slice h4; obtain ⟨A6, c6, rfl⟩ := Kd.R_slice h5; refine ⟨_, rfl, ?_⟩; have HS2 := Aside0.mk (HS.out.drew.call hrd hk2); obtain ⟨okp, hmm, hok⟩ := ins_made (x := x) h3 h4 h5 (ins_apart HS.out.drew); have HMM := Aside0.mk hmm; have HOK := Aside0.mk hok; clear hmm hok; clear hk2 hrd hc hz h3 h4 h5; obtain ⟨hc, hz⟩ := HS2.out.cells; have hc5 : ∀ o, (w5.alloc o).cell? ⟨w1.heap.size, 2, none⟩ = some v := cell_alloc ((hc 2).trans rfl))
                      | (refine Kd.R_append_step k43 (w0 := w0) w0.heap.size (by rfl) (.tmp 56) (.tmp 59) 24 43 (.agg #[.int .i64 0, .int .i64 0, .int .i64 0, .slice none 0 0, .slice none 0 0, .slice none 0 0]) 96 rfl Try.underlying24 info43 rfl (by decide) (by omega) v xs x [.int .i64 x.f0, .int .i64 x.f1, .int .i64 x.f2, .slice A3 x.f3.length c3, .slice A4 x.f4.length c4, .slice A6 x.f5.length c6] (fun k => W.heap.size ≤ k) okp (by rfl) (by rfl) ?aP ?aK ?aF ?aO ?aB ?aS ?aL ?_; (case aP => exact HMM.out); (case aK => exact HOK.out); (case aF => exact (fun k h => Nat.le_trans HS2.out.kept.1 h)); (case aO => exact HS2.out.oC); (case aB => exact HS2.out.rd.base.2.2); (case aS => exact HS2.out.rd.base.2.2.size); (case aL => have := HY3.out; omega); intro v1 w6 ho hb hg hat; obtain ⟨A5, c5, rfl⟩ := Kd.R_slice ho; rw [show (xs ++ [x]).length = xs.length + 1 from List.length_append] at ho hat; have HS3 := Aside0.mk (HS2.out.appC ho hg hb); have hbl := blk_grown HS2.out.blk hg (Kd.R_ne HS2.out.oC HS2.out.blk (by decide)); have hz6 := fun j => blk_frozen hbl j; have hc6 := fun j => blk_cell hbl j; clear ho hb hg hat hc hz hc5 hbl))
                    all_goals
                      go_wp2
                      go_roundw
                      case rel => exact ⟨t + 1, xs ++ [x], q6, _, by omega, by go_num, HP2, ⟨by have := HY3.out; simp; omega⟩, ⟨by have := HQ.out; have := HL.out; omega⟩, HS3⟩
                      case measure => simp [intOf]; omega
                · have hp := round_end hlt3 HP.out
                  clear HP
                  obtain ⟨A5, c5, rfl⟩ := Kd.R_slice HS.out.oC
                  obtain ⟨hc, hz⟩ := HS.out.cells
                  have hr1 := fun j => blk_cell HS.out.res j
                  have hr2 := fun j => blk_frozen HS.out.res j
                  obtain ⟨AQ, cQ, hqc, hqf, _, hqm, _⟩ := HS.out.rd.cell
                  by_cases hq0 : q5 = []
                  · obtain rfl : res = some ⟨ys, zs, xs⟩ := by rw [← hp]; unfold pEnd; rw [if_pos hq0]
                    have hl0 : q5.length = 0 := by rw [hq0]; rfl
                    clear hp hq0
                    generalize q5.length = L at hqc hqm hl0
                    have hl1 : ¬ 0 < L := by omega
                    clear hl0
                    go_wp2
                    obtain ⟨f1, f2, f3, f4, f5⟩ := HS.out.final (.slice AE ys.length cE) (.slice AT zs.length cT) (.slice A5 xs.length c5)
                    refine bodyPost_ret (v := .agg #[.slice AE ys.length cE, .slice AT zs.length cT, .slice A5 xs.length c5]) ?qa ?qb ?qc
                    case qa => simp [results, Try.results32, go_sem, hc, hz, hr1, hr2]
                    case qb => rfl
                    case qc => refine ⟨_, _, _, rfl, ?_, ?_, ?_, ?_, ?_⟩
                               · exact f3
                               · exact f4
                               · exact f5
                               · exact f2
                               · exact f1.base.2.2
                  · obtain rfl : res = none := by rw [← hp]; unfold pEnd; rw [if_neg hq0]
                    have hl0 : 0 < q5.length := List.length_pos_iff.2 hq0
                    clear hp hq0
                    generalize q5.length = L at hqc hqm hl0
                    have hl1 : 0 < L := by omega
                    clear hl0
                    go_wp2
                    exact ⟨rfl, rfl, HS.out.kept, HS.out.rd.base.2.2⟩
end Go.Proofs.Ytmjafkhkoifopaa.C16
end
section
/- The reader of code: what it tells of any bytes. -/
namespace Go.Proofs.Ytmjafkhkoifopaa.C16
open Go.RowKit Go.Proofs.YtmjafkhkoifopaaW.PrintWords Go.Proofs.YtmjafkhkoifopaaW.PrintLast Go.Proofs.YtmjafkhkoifopaaW.PrintMore Go.Proofs.Ytmjafkhkoifopaa.PCodeDecodes
set_option linter.unusedVariables false
set_option linter.unusedSimpArgs false
theorem image_nocount (w0 W : World) (g : Nat) (bs : List Int) (h : Rd w0 W g bs) (hs : ¬ bs.length < 2) (hg : strOfNums (bs.take 2) = ⟨#[71, 82]⟩) (hn : pCount (bs.drop 2) = none) : Calls Try.prog 32 #[.pointer (some ⟨g, 0, none⟩)] W fun e w' => Gives w0 W g e w' := by
  have H := Aside0.mk h
  have HW := Aside0.mk h.base.2.2.size
  have HN := Aside0.mk hn
  have hg1 : ((strOfNums (bs.take 2)).toList == [71, 82]) = true := by rw [gr_eq, decide_eq_true hg]
  clear h hg hn
  go_enter Try.func32, Try.ntmps32
  go_wp2_with (first
    | (go_at_call 50; refine (take_ok w0 _ g bs 2 (H.out.alloc _) (by omega)).mono ?_; rintro e w1 ⟨A, c, rfl, hc, hr, hrd, hk⟩; have hs_ := Kd.C_string Try.underlying29 Try.underlying5 Try.underlying9 (Kd.C_below hr hrd.base.2.2) (c := c); have HR := Aside0.mk hrd; have HK := Aside0.mk (((Kept.refl W (fun k => k = g)).alloc _).then_ hk (fun _ e_ => .inl e_)); have HA := Aside0.mk (blk_kept (blk_new W _) hk (by have := H.out.base.2.1; omega)); clear hk hrd hr hc)
    | (go_at_call 51; refine (cnt_none w0 _ g (bs.drop 2) (SI.start (bs := bs) HR.out HK.out HA.out (Nat.le_refl _) HW.out).rd HN.out).mono ?_; rintro e w2 ⟨he, hk, hb⟩; cases he; have HK2 := Aside0.mk ((SI.start (bs := bs) HR.out HK.out HA.out (Nat.le_refl _) HW.out).kept.then_ hk (fun _ e_ => .inl e_)); have HB2 := Aside0.mk hb; clear hk hb))
  exact ⟨rfl, rfl, HK2.out, HB2.out⟩
theorem image_is (w0 W : World) (g : Nat) (bs : List Int) (h : Rd w0 W g bs) (hlen : bs.length ≤ 1048576) : Calls Try.prog 32 #[.pointer (some ⟨g, 0, none⟩)] W fun e w' => Img w0 W g (pImage bs) e w' := by
  unfold pImage
  by_cases hs : bs.length < 2
  · rw [if_pos hs]; exact image_short w0 W g bs h hs
  · rw [if_neg hs]
    by_cases hg : strOfNums (bs.take 2) = ⟨#[71, 82]⟩
    · rw [if_pos hg]
      unfold pExns
      cases hn : pCount (bs.drop 2) with
      | none => exact image_nocount w0 W g bs h hs hg hn
      | some p => exact image_go w0 W g bs h hlen hs hg p.1 p.2 hn _ rfl
    · rw [if_neg hg]; exact image_other w0 W g bs h hs hg
end Go.Proofs.Ytmjafkhkoifopaa.C16
end
section
/- code.Decode: which image any bytes are. -/
namespace Go.Proofs.Ytmjafkhkoifopaa.C16
open Go.RowKit Go.Proofs.YtmjafkhkoifopaaW.PrintWords Go.Proofs.YtmjafkhkoifopaaW.PrintLast Go.Proofs.YtmjafkhkoifopaaW.PrintMore Go.Proofs.Ytmjafkhkoifopaa.PCodeDecodes
set_option linter.unusedVariables false
set_option linter.unusedSimpArgs false
@[go_sem] theorem as57 (v : Value) (w : World) : (Instr.typeAssert (.iface 57 v) 20 57 true).run Try.prog w = .ok (.tuple #[v, .bool true]) w := by kernel_rfl
@[go_sem] theorem asNil (w : World) : (Instr.typeAssert .nilIface 20 57 true).run Try.prog w = .ok (.tuple #[.agg #[], .bool false]) w := by kernel_rfl
/-- The world when the rescuer has laid its answer into the blocks p and q. -/
def rescued (w : World) (p q : Nat) : World := ((((w.alloc (.cells #[] 57)).setCell ⟨p, 0, none⟩ (.slice none 0 0)).setCell ⟨p, 1, none⟩ (.slice none 0 0)).setCell ⟨p, 2, none⟩ (.slice none 0 0)).setCell ⟨q, 0, none⟩ (.int .i64 30)
theorem rescue_panicking (p q : Nat) (c0 c1 c2 c3 : Value) (w : World) (hp : w.heap[p]? = some (.cells #[c0, c1, c2] 26 (0, 0))) (hq : w.heap[q]? = some (.cells #[c3] 30 (0, 0))) :
    CallsD Try.prog 31 #[.pointer (some ⟨p, 0, none⟩), .pointer (some ⟨q, 0, none⟩)] (.panicking [{ v := .iface 57 (.agg #[]), recovered := false }]) w fun e u' w' =>
      e = .returned (.tuple #[]) ∧ u' = .panicking [{ v := .iface 57 (.agg #[]), recovered := true }] ∧ w' = rescued w p q := by
  have hc := fun j => blk_cell (blk_alloc hp (.cells #[] 57)) j
  have hz := fun j => blk_frozen (blk_alloc hp (.cells #[] 57)) j
  have hc2 := fun j => blk_cell (blk_alloc hq (.cells #[] 57)) j
  have hz2 := fun j => blk_frozen (blk_alloc hq (.cells #[] 57)) j
  have hpq : p ≠ q := blk_ne hp hq (by decide)
  refine callsD_of_wpS Try.func31 rfl fun c₀ cs hu => ?_
  apply wpS_seq
  apply wpS_region
  simp [wpOpsS, go_sem, recoverD, hu, Try.ntmps31, Exit.thenS]
  apply wpS_seq
  apply wpS_region
  simp [wpOpsS, go_sem, recoverD, hu, Try.ntmps31, Exit.thenS]
  refine wpS_cond (t := true) (by simp [Act.eval, Array.replicate]) ?_
  simp only [if_true]
  apply wpS_region
  simp [wpOpsS, go_sem, hc, hz, hc2, hz2, hpq, bodyPostS, results, Try.results31, rescued]
theorem rescue_idle (p q : Nat) (w : World) :
    CallsD Try.prog 31 #[.pointer (some ⟨p, 0, none⟩), .pointer (some ⟨q, 0, none⟩)] .returning w fun e u' w' =>
      e = .returned (.tuple #[]) ∧ u' = .returning ∧ w' = w.alloc (.cells #[] 57) := by
  refine callsD_of_wpS Try.func31 rfl fun c₀ cs hu => ?_
  apply wpS_seq
  apply wpS_region
  simp [wpOpsS, go_sem, recoverD, hu, Try.ntmps31, Exit.thenS]
  apply wpS_seq
  apply wpS_region
  simp [wpOpsS, go_sem, recoverD, hu, Try.ntmps31, Exit.thenS]
  refine wpS_cond (t := false) (by simp [Act.eval, Array.replicate]) ?_
  simp only [Bool.false_eq_true, if_false]
  refine wpS_of_wp (wp_skip ?_)
  cases c₀
  simp_all [bodyPostS, results, Try.results31]
end Go.Proofs.Ytmjafkhkoifopaa.C16
end
section
/- code.Decode: which image any bytes are. -/
namespace Go.Proofs.Ytmjafkhkoifopaa.C16
open Go.RowKit Go.Proofs.YtmjafkhkoifopaaW.PrintWords Go.Proofs.YtmjafkhkoifopaaW.PrintLast Go.Proofs.YtmjafkhkoifopaaW.PrintMore Go.Proofs.Ytmjafkhkoifopaa.PCodeDecodes
set_option linter.unusedVariables false
set_option linter.unusedSimpArgs false
/-- What Decode answers to these bytes. -/
def Dec (bs : List Int) (i : Im) (err : Int) : Prop :=
  (65536 < bs.length ∧ i = ⟨[], [], []⟩ ∧ err = 3) ∨ (bs.length ≤ 65536 ∧ pImage bs = none ∧ i = ⟨[], [], []⟩ ∧ err = 30) ∨
  (bs.length ≤ 65536 ∧ pImage bs = some i ∧ MayOk i.es i.ts i.cs ∧ err = 0) ∨ (∃ j, bs.length ≤ 65536 ∧ pImage bs = some j ∧ ¬ MayOk j.es j.ts j.cs ∧ i = ⟨[], [], []⟩ ∧ err = 30)
def DecGives (bs : List Int) (w : World) (e : Ending) (w' : World) : Prop := ∃ i err vE vT vC, Dec bs i err ∧ e = .returned (.tuple #[.agg #[vE, vT, vC], .int .i64 err]) ∧
  Kd.R k45 45 w' w.heap.size (fun _ => True) vE i.es ∧ Kd.R Kd.string 9 w' w.heap.size (fun _ => True) vT i.ts ∧ Kd.R k43 43 w' w.heap.size (fun _ => True) vC i.cs ∧ Below w.heap.size w w'
/-- The bytes that a call is given. -/
def Came (w : World) (A : Option Addr) (c : Nat) (bs : List Int) : Prop := (∀ x, x ∈ bs → 0 ≤ x ∧ x ≤ 255) ∧ bs.length ≤ c ∧ Kd.C (Kd.int .u8) w A bs.length bs
theorem DecGives.empty {bs : List Int} {w w' : World} {err : Int} (h : Dec bs ⟨[], [], []⟩ err) (hb : Below w.heap.size w w') : DecGives bs w (.returned (.tuple #[.agg #[.slice none 0 0, .slice none 0 0, .slice none 0 0], .int .i64 err])) w' :=
  ⟨_, _, _, _, _, h, rfl, Kd.R_nil _ _ _ _ _, Kd.R_nil _ _ _ _ _, Kd.R_nil _ _ _ _ _, hb⟩
theorem below2 (w : World) (o o' : Obj) : Below w.heap.size w ((w.alloc o).alloc o') := below_alloc (below_alloc (Below.refl _ _) _) _
theorem below_wr {w w1 : World} (h : Below w.heap.size w w1) (u0 u1 u2 u3 : Value) : Below w.heap.size w ((((w1.setCell ⟨w.heap.size, 0, none⟩ u0).setCell ⟨w.heap.size, 1, none⟩ u1).setCell ⟨w.heap.size, 2, none⟩ u2).setCell ⟨w.heap.size + 1, 0, none⟩ u3) := by
  have h1 := h.setCell (p := ⟨w.heap.size, 0, none⟩) (Nat.le_refl _) u0
  have h2 := h1.setCell (p := ⟨w.heap.size, 1, none⟩) (Nat.le_refl _) u1
  have h3 := h2.setCell (p := ⟨w.heap.size, 2, none⟩) (Nat.le_refl _) u2
  exact h3.setCell (p := ⟨w.heap.size + 1, 0, none⟩) (Nat.le_succ _) u3
theorem decode_many (A : Option Addr) (c : Nat) (bs : List Int) (w : World) (hm : 65536 < bs.length) : Calls Try.prog 15 #[.slice A bs.length c] w fun e w' => DecGives bs w e w' := by
  have hm1 : (65536 : Int) < bs.length := by omega
  go_enter Try.func15, Try.ntmps15
  go_wp2
  exact bodyPost_ret (v := .tuple #[.agg #[.slice none 0 0, .slice none 0 0, .slice none 0 0], .int .i64 3]) (by simp [results, Try.results15, go_sem]) rfl (DecGives.empty (.inl ⟨hm, rfl, rfl⟩) (below2 _ _ _))
theorem came_rd {w : World} {A : Option Addr} {c : Nat} {bs : List Int} (h : Came w A c bs) (o o' : Obj) : Rd w (((w.alloc o).alloc o').alloc (.cells #[.slice A bs.length c] 61)) (w.heap.size + 1 + 1) bs := by
  refine ⟨h.1, A, c, ?_, h.2.1, h.2.2, by omega, below_alloc (below2 _ _ _) _⟩
  have := blk_new ((w.alloc o).alloc o') (.cells #[.slice A bs.length c] 61)
  simpa using this
theorem boxes2 {w w2 : World} {u0 u1 u2 u3 : Value} {o : Obj} (hk : Kept (((w.alloc (.cells #[u0, u1, u2] 26)).alloc (.cells #[u3] 30)).alloc o) w2 (fun k => k = w.heap.size + 1 + 1)) :
    w2.heap[w.heap.size]? = some (.cells #[u0, u1, u2] 26 (0, 0)) ∧ w2.heap[w.heap.size + 1]? = some (.cells #[u3] 30 (0, 0)) := by
  have h2 := blk_new (w.alloc (.cells #[u0, u1, u2] 26)) (.cells #[u3] 30)
  rw [World.size_alloc] at h2
  exact ⟨blk_kept (blk_alloc (blk_alloc (blk_new w (.cells #[u0, u1, u2] 26)) _) _) hk (by omega), blk_kept (blk_alloc h2 _) hk (by omega)⟩
theorem rescued_has {w : World} {p q : Nat} {c0 c1 c2 c3 : Value} (hp : w.heap[p]? = some (.cells #[c0, c1, c2] 26 (0, 0))) (hq : w.heap[q]? = some (.cells #[c3] 30 (0, 0))) :
    (∀ j, (rescued w p q).cell? ⟨p, j, none⟩ = #[.slice none 0 0, .slice none 0 0, .slice none 0 0][j]?) ∧ (∀ j, (rescued w p q).cell? ⟨q, j, none⟩ = #[.int .i64 30][j]?) ∧ (w.heap.size ≤ (rescued w p q).heap.size) := by
  have hpq : p ≠ q := blk_ne hp hq (by decide)
  have h1 := blk_far (blk_set (blk_set (blk_set (blk_alloc hp (.cells #[] 57)) 0 (.slice none 0 0)) 1 (.slice none 0 0)) 2 (.slice none 0 0)) (p := ⟨q, 0, none⟩) hpq (.int .i64 30)
  have h2 := blk_set (blk_far (blk_far (blk_far (blk_alloc hq (.cells #[] 57)) (p := ⟨p, 0, none⟩) (Ne.symm hpq) (.slice none 0 0)) (p := ⟨p, 1, none⟩) (Ne.symm hpq) (.slice none 0 0)) (p := ⟨p, 2, none⟩) (Ne.symm hpq) (.slice none 0 0)) 0 (.int .i64 30)
  exact ⟨fun j => blk_cell h1 j, fun j => blk_cell h2 j, by simp [rescued]⟩
theorem decode_none (A : Option Addr) (c : Nat) (bs : List Int) (w : World) (h : Came w A c bs) (hm : bs.length ≤ 65536) (hn : pImage bs = none) : Calls Try.prog 15 #[.slice A bs.length c] w fun e w' => DecGives bs w e w' := by
  have hmf : ∀ (fn : Fn) (first cap : Array Value) (w : World), (Instr.makeFunc fn first cap).run Try.prog w = .ok (.func fn first cap) w := fun _ _ _ _ => rfl
  have hm1 : ¬ (65536 : Int) < bs.length := by omega
  have H := Aside0.mk h
  have HN := Aside0.mk hn
  have HM := Aside0.mk hm
  clear h hn hm
  go_enter_defers Try.func15, Try.ntmps15
  go_wp2_with (go_at_call 32; have hin := image_is w _ _ bs (came_rd H.out (.cells #[.slice none 0 0, .slice none 0 0, .slice none 0 0] 26) (.cells #[.int .i64 0] 30)) (by have := HM.out; omega); rw [HN.out] at hin; refine hin.mono ?_; rintro e w2 ⟨he, hk, hb⟩; cases he; obtain ⟨b1, b2⟩ := boxes2 hk; have HB := Aside0.mk hb; clear hk hb hin)
  refine leaves_cons (f := 31) (args := #[.pointer (some ⟨w.heap.size, 0, none⟩), .pointer (some ⟨w.heap.size + 1, 0, none⟩)]) (by simp) (by simp [go_sem]) ?_
  refine (rescue_panicking _ _ _ _ _ _ w2 b1 b2).mono ?_
  rintro e u' w'' ⟨rfl, rfl, rfl⟩
  obtain ⟨r1, r2, r3⟩ := rescued_has b1 b2
  simp [Leaves, settle, results, Try.results15, go_sem, r1, r2]
  exact DecGives.empty (.inr (.inl ⟨HM.out, HN.out, rfl, rfl⟩)) (below_wr (below_alloc HB.out _) _ _ _ _)
/-- The rows of an image that a call made. -/
structure Rows3 (w0 w : World) (vE vT vC : Value) (i : Im) : Prop where
  oE : Kd.R k45 45 w w0.heap.size (fun _ => True) vE i.es
  oT : Kd.R Kd.string 9 w w0.heap.size (fun _ => True) vT i.ts
  oC : Kd.R k43 43 w w0.heap.size (fun _ => True) vC i.cs
theorem Rows3.below {w0 w w1 : World} {vE vT vC : Value} {i : Im} (h : Rows3 w0 w vE vT vC i) (hb : Below w.heap.size w w1) : Rows3 w0 w1 vE vT vC i := ⟨Kd.R_below h.oE hb, Kd.R_below h.oT hb, Kd.R_below h.oC hb⟩
theorem Rows3.set {w0 w : World} {vE vT vC : Value} {i : Im} (h : Rows3 w0 w vE vT vC i) {g t : Nat} {cells : Array Value} (hb : w.heap[g]? = some (.cells cells t (0, 0))) (ht : t = 26 ∨ t = 30) (j : Nat) (u : Value) : Rows3 w0 (w.setCell ⟨g, j, none⟩ u) vE vT vC i :=
  ⟨Kd.R_set h.oE hb (types45 (by omega)) j u, Kd.R_set h.oT hb (types9 (by omega)) j u, Kd.R_set h.oC hb (types43 (by omega) (by omega) (by omega)) j u⟩
theorem Rows3.wr {w0 w : World} {vE vT vC : Value} {i : Im} (h : Rows3 w0 w vE vT vC i) {p : Nat} {c0 c1 c2 u0 u1 u2 : Value} (hp : w.heap[p]? = some (.cells #[c0, c1, c2] 26 (0, 0))) :
    Rows3 w0 (((w.setCell ⟨p, 0, none⟩ u0).setCell ⟨p, 1, none⟩ u1).setCell ⟨p, 2, none⟩ u2) vE vT vC i ∧ (((w.setCell ⟨p, 0, none⟩ u0).setCell ⟨p, 1, none⟩ u1).setCell ⟨p, 2, none⟩ u2).heap[p]? = some (.cells #[u0, u1, u2] 26 (0, 0)) := by
  have h1 := blk_set hp 0 u0
  have h2 := blk_set h1 1 u1
  have h3 := blk_set h2 2 u2
  exact ⟨((h.set hp (.inl rfl) 0 u0).set h1 (.inl rfl) 1 u1).set h2 (.inl rfl) 2 u2, h3⟩
theorem Rows3.img {w0 w : World} {A0 A1 A2 : Option Addr} {n0 n1 n2 c0 c1 c2 : Nat} {i : Im} (h : Rows3 w0 w (.slice A0 n0 c0) (.slice A1 n1 c1) (.slice A2 n2 c2) i) : n0 = i.es.length ∧ n1 = i.ts.length ∧ n2 = i.cs.length ∧ ImgAt w A0 c0 A1 c1 A2 c2 i.es i.ts i.cs := by
  obtain ⟨rfl, a2, a3⟩ := Kd.R_reads' h.oE
  obtain ⟨rfl, b2, b3⟩ := Kd.R_reads' h.oT
  obtain ⟨rfl, e2, e3⟩ := Kd.R_reads' h.oC
  exact ⟨rfl, rfl, rfl, a3, a2, b3, b2, e3, e2⟩
theorem blk_far3 {w : World} {g t : Nat} {cs : Array Value} (h : w.heap[g]? = some (.cells cs t (0, 0))) {p : Nat} (hp : g ≠ p) (u0 u1 u2 : Value) : (((w.setCell ⟨p, 0, none⟩ u0).setCell ⟨p, 1, none⟩ u1).setCell ⟨p, 2, none⟩ u2).heap[g]? = some (.cells cs t (0, 0)) :=
  blk_far (blk_far (blk_far h (p := ⟨p, 0, none⟩) hp u0) (p := ⟨p, 1, none⟩) hp u1) (p := ⟨p, 2, none⟩) hp u2
theorem below_wr3 {w w1 : World} (h : Below w.heap.size w w1) (u0 u1 u2 : Value) : Below w.heap.size w (((w1.setCell ⟨w.heap.size, 0, none⟩ u0).setCell ⟨w.heap.size, 1, none⟩ u1).setCell ⟨w.heap.size, 2, none⟩ u2) := by
  have h1 := h.setCell (p := ⟨w.heap.size, 0, none⟩) (Nat.le_refl _) u0
  have h2 := h1.setCell (p := ⟨w.heap.size, 1, none⟩) (Nat.le_refl _) u1
  exact h2.setCell (p := ⟨w.heap.size, 2, none⟩) (Nat.le_refl _) u2
theorem decode_may (A : Option Addr) (c : Nat) (bs : List Int) (w : World) (h : Came w A c bs) (hm : bs.length ≤ 65536) (i : Im) (hi : pImage bs = some i) (hz : Sized i.cs) (b : Bool) (hmay : b = true ↔ MayOk i.es i.ts i.cs) : Calls Try.prog 15 #[.slice A bs.length c] w fun e w' => DecGives bs w e w' := by
  have hmf : ∀ (fn : Fn) (first cap : Array Value) (w : World), (Instr.makeFunc fn first cap).run Try.prog w = .ok (.func fn first cap) w := fun _ _ _ _ => rfl
  have hm1 : ¬ (65536 : Int) < bs.length := by omega
  have H := Aside0.mk h
  have HI := Aside0.mk hi
  have HM := Aside0.mk hm
  have HZ := Aside0.mk hz
  clear h hi hm hz
  cases b with
  | true =>
    have HMAY := Aside0.mk (hmay.1 rfl)
    clear hmay
    go_enter_defers Try.func15, Try.ntmps15
    go_wp2_with (first
      | (go_at_call 32; have hin := image_is w _ _ bs (came_rd H.out (.cells #[.slice none 0 0, .slice none 0 0, .slice none 0 0] 26) (.cells #[.int .i64 0] 30)) (by have := HM.out; omega); rw [HI.out] at hin; refine hin.mono ?_; rintro e w2 ⟨vE, vT, vC, rfl, oE, oT, oC, hk, hb⟩; obtain ⟨A0, c0, rfl⟩ := Kd.R_slice oE; obtain ⟨A1, c1, rfl⟩ := Kd.R_slice oT; obtain ⟨A2, c2, rfl⟩ := Kd.R_slice oC; have HR := Aside0.mk (show Rows3 w w2 _ _ _ i from ⟨Kd.R_mono oE (fun _ _ => trivial), Kd.R_mono oT (fun _ _ => trivial), Kd.R_mono oC (fun _ _ => trivial)⟩); obtain ⟨b1, b2⟩ := boxes2 hk; have hc := fun j => blk_cell b1 j; have hf := fun j => blk_frozen b1 j; have hc2 := fun j => blk_cell b2 j; have hf2 := fun j => blk_frozen b2 j; have B1 := Aside0.mk b1; have B2 := Aside0.mk b2; have HB := Aside0.mk hb; clear hk hb hin oE oT oC b1 b2)
      | (go_at_call 11; obtain ⟨R2, p2⟩ := HR.out.wr B1.out (u0 := .slice A0 i.es.length c0) (u1 := .slice A1 i.ts.length c1) (u2 := .slice A2 i.cs.length c2); have q2 := blk_far3 B2.out (p := w.heap.size) (by omega) (.slice A0 i.es.length c0) (.slice A1 i.ts.length c1) (.slice A2 i.cs.length c2); have hb2 := below_wr3 HB.out (.slice A0 i.es.length c0) (.slice A1 i.ts.length c1) (.slice A2 i.cs.length c2); refine (may_calls A0 c0 A1 c1 A2 c2 i.es i.ts i.cs _ R2.img.2.2.2 HZ.out).mono ?_; rintro e w3 ⟨hs, hb3⟩; obtain rfl := hs.is (b := true) ⟨fun _ => HMAY.out, fun _ => rfl⟩; have R3 := Aside0.mk (R2.below hb3); have P3 := Aside0.mk (blk_below p2 hb3); have Q3 := Aside0.mk (blk_below q2 hb3); have HB3 := Aside0.mk (below_then hb2 hb2.size hb3); clear hc hf hc2 hf2 hs hb3 hb2 q2 p2 R2 HR B1 B2; have hc := fun j => blk_cell P3.out j; have hf := fun j => blk_frozen P3.out j; have hc2 := fun j => blk_cell Q3.out j; have hf2 := fun j => blk_frozen Q3.out j))
    obtain ⟨R4, p4⟩ := R3.out.wr P3.out (u0 := .slice A0 i.es.length c0) (u1 := .slice A1 i.ts.length c1) (u2 := .slice A2 i.cs.length c2)
    have q4 := blk_far3 Q3.out (p := w.heap.size) (by omega) (.slice A0 i.es.length c0) (.slice A1 i.ts.length c1) (.slice A2 i.cs.length c2)
    have R5 := (R4.set q4 (.inr rfl) 0 (.int .i64 0)).below (below_alloc (Below.refl _ _) (.cells #[] 57))
    have p5 := fun j => blk_cell (blk_alloc (blk_far p4 (p := ⟨w.heap.size + 1, 0, none⟩) (show w.heap.size ≠ w.heap.size + 1 by omega) (.int .i64 0)) (.cells #[] 57)) j
    have q5 := fun j => blk_cell (blk_alloc (blk_set q4 0 (.int .i64 0)) (.cells #[] 57)) j
    have b5 := below_alloc (below_wr HB3.out (.slice A0 i.es.length c0) (.slice A1 i.ts.length c1) (.slice A2 i.cs.length c2) (.int .i64 0)) (.cells #[] 57)
    refine leaves_cons (f := 31) (args := #[.pointer (some ⟨w.heap.size, 0, none⟩), .pointer (some ⟨w.heap.size + 1, 0, none⟩)]) (by simp) (by simp [go_sem]) ?_
    refine (rescue_idle _ _ _).mono ?_
    rintro e u' w'' ⟨rfl, rfl, rfl⟩
    simp [Leaves, settle, results, Try.results15, go_sem, p5, q5]
    exact ⟨i, 0, _, _, _, .inr (.inr (.inl ⟨HM.out, HI.out, HMAY.out, rfl⟩)), rfl, R5.oE, R5.oT, R5.oC, b5⟩
  | false =>
    have HMAY := Aside0.mk (show ¬ MayOk i.es i.ts i.cs from fun h => absurd (hmay.2 h) (by simp))
    clear hmay
    go_enter_defers Try.func15, Try.ntmps15
    go_wp2_with (first
      | (go_at_call 32; have hin := image_is w _ _ bs (came_rd H.out (.cells #[.slice none 0 0, .slice none 0 0, .slice none 0 0] 26) (.cells #[.int .i64 0] 30)) (by have := HM.out; omega); rw [HI.out] at hin; refine hin.mono ?_; rintro e w2 ⟨vE, vT, vC, rfl, oE, oT, oC, hk, hb⟩; obtain ⟨A0, c0, rfl⟩ := Kd.R_slice oE; obtain ⟨A1, c1, rfl⟩ := Kd.R_slice oT; obtain ⟨A2, c2, rfl⟩ := Kd.R_slice oC; have HR := Aside0.mk (show Rows3 w w2 _ _ _ i from ⟨Kd.R_mono oE (fun _ _ => trivial), Kd.R_mono oT (fun _ _ => trivial), Kd.R_mono oC (fun _ _ => trivial)⟩); obtain ⟨b1, b2⟩ := boxes2 hk; have hc := fun j => blk_cell b1 j; have hf := fun j => blk_frozen b1 j; have hc2 := fun j => blk_cell b2 j; have hf2 := fun j => blk_frozen b2 j; have B1 := Aside0.mk b1; have B2 := Aside0.mk b2; have HB := Aside0.mk hb; clear hk hb hin oE oT oC b1 b2)
      | (go_at_call 11; obtain ⟨R2, p2⟩ := HR.out.wr B1.out (u0 := .slice A0 i.es.length c0) (u1 := .slice A1 i.ts.length c1) (u2 := .slice A2 i.cs.length c2); have q2 := blk_far3 B2.out (p := w.heap.size) (by omega) (.slice A0 i.es.length c0) (.slice A1 i.ts.length c1) (.slice A2 i.cs.length c2); have hb2 := below_wr3 HB.out (.slice A0 i.es.length c0) (.slice A1 i.ts.length c1) (.slice A2 i.cs.length c2); refine (may_calls A0 c0 A1 c1 A2 c2 i.es i.ts i.cs _ R2.img.2.2.2 HZ.out).mono ?_; rintro e w3 ⟨hs, hb3⟩; obtain rfl := hs.is (b := false) ⟨fun e_ => absurd e_ (by simp), fun h_ => absurd h_ HMAY.out⟩; have R3 := Aside0.mk (R2.below hb3); have P3 := Aside0.mk (blk_below p2 hb3); have Q3 := Aside0.mk (blk_below q2 hb3); have HB3 := Aside0.mk (below_then hb2 hb2.size hb3); clear hc hf hc2 hf2 hs hb3 hb2 q2 p2 R2 HR B1 B2; have hc := fun j => blk_cell P3.out j; have hf := fun j => blk_frozen P3.out j; have hc2 := fun j => blk_cell Q3.out j; have hf2 := fun j => blk_frozen Q3.out j))
    obtain ⟨R4, p4⟩ := R3.out.wr P3.out (u0 := .slice none 0 0) (u1 := .slice none 0 0) (u2 := .slice none 0 0)
    have q4 := blk_far3 Q3.out (p := w.heap.size) (by omega) (.slice none 0 0) (.slice none 0 0) (.slice none 0 0)
    have p5 := fun j => blk_cell (blk_alloc (blk_far p4 (p := ⟨w.heap.size + 1, 0, none⟩) (show w.heap.size ≠ w.heap.size + 1 by omega) (.int .i64 30)) (.cells #[] 57)) j
    have q5 := fun j => blk_cell (blk_alloc (blk_set q4 0 (.int .i64 30)) (.cells #[] 57)) j
    have b5 := below_alloc (below_wr HB3.out (.slice none 0 0) (.slice none 0 0) (.slice none 0 0) (.int .i64 30)) (.cells #[] 57)
    refine leaves_cons (f := 31) (args := #[.pointer (some ⟨w.heap.size, 0, none⟩), .pointer (some ⟨w.heap.size + 1, 0, none⟩)]) (by simp) (by simp [go_sem]) ?_
    refine (rescue_idle _ _ _).mono ?_
    rintro e u' w'' ⟨rfl, rfl, rfl⟩
    simp [Leaves, settle, results, Try.results15, go_sem, p5, q5]
    exact DecGives.empty (.inr (.inr (.inr ⟨i, HM.out, HI.out, HMAY.out, rfl, rfl⟩))) b5
end Go.Proofs.Ytmjafkhkoifopaa.C16
end
section
/- code.Decode: its contract for any bytes. -/
namespace Go.Proofs.Ytmjafkhkoifopaa.C16
open Go.RowKit Go.Proofs.YtmjafkhkoifopaaW.PrintWords Go.Proofs.YtmjafkhkoifopaaW.PrintLast Go.Proofs.YtmjafkhkoifopaaW.PrintMore Go.Proofs.Ytmjafkhkoifopaa.PCodeDecodes
set_option linter.unusedVariables false
set_option linter.unusedSimpArgs false
theorem pNums_size : ∀ (n : Nat) {bs r l : List Int}, pNums n bs = some (l, r) → l.length = n
  | 0, bs, r, l, h => by simp only [pNums] at h; cases h; rfl
  | n + 1, bs, r, l, h => by
    simp only [pNums] at h
    split at h
    · cases h
    · split at h
      · cases h
      · rename_i l' r' e'
        cases h
        rw [List.length_cons, pNums_size n e']
theorem pPlaces_size : ∀ (n : Nat) {bs r l : List Int}, pPlaces n bs = some (l, r) → l.length = n
  | 0, bs, r, l, h => by simp only [pPlaces] at h; cases h; rfl
  | n + 1, bs, r, l, h => by
    simp only [pPlaces] at h
    split at h
    · cases h
    · split at h
      · cases h
      · rename_i l' r' e'
        cases h
        rw [List.length_cons, pPlaces_size n e']
theorem optNum_len {c : Bool} {bs r : List Int} {x : Int} (h : optNum c bs = some (x, r)) : r.length ≤ bs.length := by
  unfold optNum at h
  split at h
  · exact pNum_len h
  · cases h; omega
theorem optList_len {c : Bool} {bs r x : List Int} (h : optList c bs = some (x, r)) : r.length ≤ bs.length ∧ x.length ≤ bs.length := by
  unfold optList at h
  split at h
  · refine ⟨pList_len h, ?_⟩
    unfold pList at h
    split at h
    · cases h
    · rename_i n q e
      have := pCount_le e
      have := pNums_size n h
      omega
  · cases h; simp
theorem pWay_le {f : Int} {bs r : List Int} {n : Nat} (h : pWay f bs = some (n, r)) : r.length ≤ bs.length ∧ n ≤ bs.length + 1 := by
  unfold pWay at h
  split at h
  · have := pCount_len h
    have := pCount_le h
    omega
  · cases h
    split <;> omega
theorem pIns_size {bs r : List Int} {x : S43} (h : pIns bs = some (x, r)) : x.f3.length ≤ bs.length ∧ x.f4.length ≤ bs.length ∧ x.f5.length ≤ bs.length + 1 := by
  unfold pIns at h
  cases h0 : pNum bs with
  | none => rw [h0] at h; cases h
  | some p =>
    obtain ⟨x0, q⟩ := p
    have m0 := pNum_len h0
    rw [h0, Option.bind_some] at h
    replace h : pRest (fieldsOf (opOf x0)) (opOf x0) q = some (x, r) := h
    generalize opOf x0 = op at h
    generalize fieldsOf op = f at h
    unfold pRest at h
    by_cases hf : (f == -1) = true
    · rw [if_pos hf] at h
      cases h
    · rw [if_neg hf] at h
      simp only [Option.bind_eq_some_iff] at h
      obtain ⟨a1, e1, a2, e2, a3, e3, a4, e4, a5, e5, a6, e6, h⟩ := h
      cases h
      have := optNum_len e1
      have := optNum_len e2
      have := optList_len e3
      have := optList_len e4
      have := pWay_le e5
      have := pPlaces_size _ e6
      refine ⟨?_, ?_, ?_⟩ <;> dsimp only <;> omega
theorem pMany_all {α : Type} {P : α → Prop} {p : List Int → Option (α × List Int)} {N : Nat} (hp : ∀ q x r, q.length ≤ N → p q = some (x, r) → P x ∧ r.length ≤ N) :
    ∀ (n : Nat) {q r : List Int} {l : List α}, q.length ≤ N → pMany p n q = some (l, r) → (∀ x, x ∈ l → P x) ∧ r.length ≤ N
  | 0, q, r, l, hq, h => by
    simp only [pMany] at h
    cases h
    exact ⟨fun x hx => absurd hx (by simp), hq⟩
  | n + 1, q, r, l, hq, h => by
    simp only [pMany, Option.bind_eq_some_iff] at h
    obtain ⟨⟨y1, y2⟩, e1, ⟨z1, z2⟩, e2, h⟩ := h
    cases h
    obtain ⟨h1, h2⟩ := hp _ _ _ hq e1
    obtain ⟨h3, h4⟩ := pMany_all hp n h2 e2
    refine ⟨fun x hx => ?_, h4⟩
    rcases List.mem_cons.1 hx with rfl | hx
    · exact h1
    · exact h3 x hx
theorem pExn_len {bs r : List Int} {x : S45} (h : pExn bs = some (x, r)) : r.length ≤ bs.length := by
  unfold pExn at h
  simp only [Option.bind_eq_some_iff] at h
  obtain ⟨⟨y1, y2⟩, e1, ⟨z1, z2⟩, e2, h⟩ := h
  split at h
  · cases h
    have := pText_len e1
    have := pNum_len e2
    simp only at *
    omega
  · cases h
theorem pImage_sized {bs : List Int} {i : Im} (hl : bs.length ≤ 65536) (h : pImage bs = some i) : Sized i.cs := by
  unfold pImage at h
  split at h
  · cases h
  · split at h
    · unfold pExns at h
      simp only [Option.bind_eq_some_iff] at h
      obtain ⟨⟨n1, q1⟩, e1, ⟨l1, q2⟩, e2, h⟩ := h
      have m1 := pCount_len e1
      rw [List.length_drop] at m1
      have m2 := (pMany_all (P := fun _ => True) (N := 65536) (fun q x r hq h => ⟨trivial, by have := pExn_len h; omega⟩) n1 (by simp only at *; omega) e2).2
      unfold pTexts at h
      simp only [Option.bind_eq_some_iff] at h
      obtain ⟨⟨n2, q3⟩, e3, ⟨l2, q4⟩, e4, h⟩ := h
      have m3 := pCount_len e3
      have m4 := (pMany_all (P := fun _ => True) (N := 65536) (fun q x r hq h => ⟨trivial, by have := pText_len h; omega⟩) n2 (by simp only at *; omega) e4).2
      unfold pCode at h
      simp only [Option.bind_eq_some_iff] at h
      obtain ⟨⟨n3, q5⟩, e5, ⟨l3, q6⟩, e6, h⟩ := h
      have m5 := pCount_len e5
      have m6 := (pMany_all (P := fun x : S43 => x.f3.length ≤ 65537 ∧ x.f4.length ≤ 65537 ∧ x.f5.length ≤ 65537) (N := 65536) (fun q x r hq h => ⟨by have := pIns_size h; omega, by have := pIns_len h; omega⟩) n3 (by simp only at *; omega) e6).1
      unfold pEnd at h
      split at h
      · cases h
        intro c hc
        have := m6 c hc
        omega
      · cases h
    · cases h
theorem decode_is (A : Option Addr) (c : Nat) (bs : List Int) (w : World) (h : Came w A c bs) : Calls Try.prog 15 #[.slice A bs.length c] w fun e w' => DecGives bs w e w' := by
  by_cases hm : 65536 < bs.length
  · exact decode_many A c bs w hm
  · cases hi : pImage bs with
    | none => exact decode_none A c bs w h (by omega) hi
    | some i =>
      obtain ⟨b, hb⟩ := bool_of (MayOk i.es i.ts i.cs)
      exact decode_may A c bs w h (by omega) i hi (pImage_sized (by omega) hi) b hb
end Go.Proofs.Ytmjafkhkoifopaa.C16
end
