import Derived.Test.YtmjafkhkoifopaaVM6
import Derived.ChangeArms
import Derived.DataShut
import Derived.Deep.Slices
import Derived.WideShapes
section
/- Plain law: an image's bytes and their reading. -/
namespace Go.Proofs.Ytmjafkhkoifopaa.C16
open Go.RowKit Go.Proofs.YtmjafkhkoifopaaW.PrintWords Go.Proofs.YtmjafkhkoifopaaW.PrintLast Go.Proofs.YtmjafkhkoifopaaW.PrintMore Go.Proofs.Ytmjafkhkoifopaa.PCodeDecodes
set_option linter.unusedVariables false
set_option linter.unusedSimpArgs false
def In64 (n : Int) : Prop := -9223372036854775808 ≤ n ∧ n ≤ 9223372036854775807
def Bytes (bs : List Int) : Prop := ∀ x, x ∈ bs → 0 ≤ x ∧ x ≤ 255
theorem leN_NB (n : Int) : leN (NB n) = n % 18446744073709551616 := by
  simp only [NB, leN]
  omega
theorem pNum_NB {n : Int} (h : In64 n) (r : List Int) : pNum (NB n ++ r) = some (n, r) := by
  obtain ⟨h1, h2⟩ := h
  have e1 : (NB n ++ r).take 8 = NB n := List.take_left' rfl
  have e2 : (NB n ++ r).drop 8 = r := List.drop_left' rfl
  unfold pNum
  rw [if_neg (by simp [NB_length]), le8, e1, e2, leN_NB]
  congr 2
  unfold wrap64
  omega
theorem str_back (s : ByteArray) : strOfNums (bytesOf s) = s := by
  apply bytes_ext
  rw [strOfNums_data, bytesOf, List.map_map]
  refine (List.map_congr_left (fun b _ => ?_)).trans (List.map_id _)
  simp
theorem pText_enc (s : ByteArray) (hs : s.size ≤ 4096) (r : List Int) : pText (encText s ++ r) = some (s, r) := by
  unfold pText encText
  rw [List.append_assoc, pNum_NB ⟨by omega, by omega⟩]
  dsimp only
  have hl := bytesOf_length s
  rw [if_neg (by rw [List.length_append, hl]; omega), Int.toNat_natCast, List.take_left' hl, List.drop_left' hl, str_back]
theorem pCount_enc {n : Nat} {r : List Int} (h : 8 * n ≤ r.length) (h2 : n ≤ 140737488355328) : pCount (NB n ++ r) = some (n, r) := by
  unfold pCount
  rw [pNum_NB ⟨by omega, by omega⟩]
  dsimp only
  rw [if_neg (by omega), Int.toNat_natCast]
theorem pNums_enc : ∀ (l : List Int) (r : List Int), (∀ n, n ∈ l → In64 n) → pNums l.length (l.flatMap NB ++ r) = some (l, r)
  | [], r, _ => rfl
  | x :: l, r, h => by
    rw [List.length_cons, pNums, List.flatMap_cons, List.append_assoc, pNum_NB (h x (by simp))]
    dsimp only
    rw [pNums_enc l r (fun n hn => h n (by simp [hn]))]
theorem clamp_id {x : Int} (h : 0 ≤ x ∧ x < 8000) : clamp x = x := by unfold clamp mn mx; repeat' split
                                                                      all_goals omega
theorem pPlaces_enc : ∀ (l : List Int) (r : List Int), (∀ n, n ∈ l → 0 ≤ n ∧ n < 8000) → pPlaces l.length (l.flatMap NB ++ r) = some (l, r)
  | [], r, _ => rfl
  | x :: l, r, h => by
    have hx := h x (by simp)
    rw [List.length_cons, pPlaces, List.flatMap_cons, List.append_assoc, pNum_NB ⟨by omega, by omega⟩]
    dsimp only
    rw [pPlaces_enc l r (fun n hn => h n (by simp [hn])), clamp_id hx]
theorem flat_len (l : List Int) : (l.flatMap NB).length = 8 * l.length := by
  induction l with
  | nil => rfl
  | cons x l ih => rw [List.flatMap_cons, List.length_append, NB_length, ih, List.length_cons]; omega
theorem pList_of {bs q : List Int} {n : Nat} (h : pCount bs = some (n, q)) : pList bs = pNums n q := by
  unfold pList
  rw [h]
theorem encList_app (l r : List Int) : encList l ++ r = NB l.length ++ (l.flatMap NB ++ r) := by
  rw [encList, List.append_assoc]
theorem pList_enc (l : List Int) (r : List Int) (h : ∀ n, n ∈ l → In64 n) (hl : l.length ≤ 140737488355328) : pList (encList l ++ r) = some (l, r) := by
  have h1 : 8 * l.length ≤ (l.flatMap NB ++ r).length := by
    rw [List.length_append, flat_len]
    exact Nat.le_add_right _ _
  have h2 := pCount_enc h1 hl
  rw [encList_app]
  exact (pList_of h2).trans (pNums_enc l r h)
end Go.Proofs.Ytmjafkhkoifopaa.C16
end
section
/- Plain law: an image's bytes say the image, and nothing else does. -/
namespace Go.Proofs.Ytmjafkhkoifopaa.C16
open Go.RowKit Go.Proofs.YtmjafkhkoifopaaW.PrintWords Go.Proofs.YtmjafkhkoifopaaW.PrintLast Go.Proofs.YtmjafkhkoifopaaW.PrintMore Go.Proofs.Ytmjafkhkoifopaa.PCodeDecodes
set_option linter.unusedVariables false
set_option linter.unusedSimpArgs false
def Ranged (cs : List S43) : Prop := ∀ c, c ∈ cs → In64 c.f1 ∧ In64 c.f2 ∧ (∀ n, n ∈ c.f3 → In64 n) ∧ (∀ n, n ∈ c.f4 → In64 n)
theorem fieldsOf_op {op : Int} (h : 0 ≤ fieldsOf op) : 1 ≤ op ∧ op ≤ 30 := by
  by_cases h1 : 1 ≤ op ∧ op ≤ 30
  · exact h1
  · exfalso
    revert h
    unfold fieldsOf
    iterate 30 rw [if_neg (by omega)]
    decide
theorem opOf_id {x : Int} (h : 1 ≤ x ∧ x ≤ 30) : opOf x = x := by
  unfold opOf mn mx
  repeat' split
  all_goals omega
/-- An instruction as the bytes tell it: what no field says is 0. -/
structure Plain (c : S43) (n : Nat) : Prop where
  op : 0 ≤ fieldsOf c.f0
  b0 : fieldsOf c.f0 ≠ 3 → c.f2 = 0
  t0 : fieldsOf c.f0 ≠ 20 → c.f3 = [] ∧ c.f4 = []
  l1 : fieldsOf c.f0 = 8 ∨ fieldsOf c.f0 = 9 → c.f5.length = 1
  l0 : fieldsOf c.f0 = 0 ∨ fieldsOf c.f0 = 1 ∨ fieldsOf c.f0 = 3 → c.f5 = []
  a0 : fieldsOf c.f0 = 0 ∨ fieldsOf c.f0 = 8 ∨ fieldsOf c.f0 = 20 → c.f1 = 0
  pl : ∀ x, x ∈ c.f5 → 0 ≤ x ∧ x < 8000
theorem numberOk_zero {n op A B : Int} (hf : fieldsOf op = 0 ∨ fieldsOf op = 8 ∨ fieldsOf op = 20) (h : numberOk n op A B = true) (h0 : 0 ≤ fieldsOf op) : A = 0 := by
  have hop := fieldsOf_op h0
  have hc : op = 6 ∨ op = 12 ∨ op = 20 ∨ op = 21 ∨ op = 28 ∨ op = 29 ∨ op = 30 ∨ op = 9 ∨ op = 24 ∨ op = 25 ∨ op = 27 ∨ op = 26 := by
    have hall : ∀ n : Fin 31, (fieldsOf (n.val : Int) = 0 ∨ fieldsOf (n.val : Int) = 8 ∨ fieldsOf (n.val : Int) = 20) → n.val = 6 ∨ n.val = 12 ∨ n.val = 20 ∨ n.val = 21 ∨ n.val = 28 ∨ n.val = 29 ∨ n.val = 30 ∨ n.val = 9 ∨ n.val = 24 ∨ n.val = 25 ∨ n.val = 27 ∨ n.val = 26 := by decide
    have e : ((op.toNat : Nat) : Int) = op := by omega
    have := hall ⟨op.toNat, by omega⟩
    simp only [e] at this
    have := this hf
    omega
  unfold numberOk at h
  repeat rw [if_neg (by omega)] at h
  simpa using h
theorem plain_of {ts : List ByteArray} {cs : List S43} {k : Nat} {c : S43} (h : insOk ts cs k c) (hn : cs.length ≤ 8000) : Plain c cs.length := by
  obtain ⟨h1, h2, h3, h4, h5, h6, h7, h8, h9, h10⟩ := h
  refine ⟨h1, h3, h4, h5, h6, fun hf => numberOk_zero hf h2 h1, fun x hx => ?_⟩
  have := List.any_eq_false.1 h10 x hx
  simp [outside] at this
  omega
theorem pIns_of {bs q : List Int} {x : Int} (h : pNum bs = some (x, q)) : pIns bs = pRest (fieldsOf (opOf x)) (opOf x) q := by unfold pIns; rw [h]; rfl
theorem pIns_enc {c : S43} {n : Nat} (h : Plain c n) (h1 : In64 c.f1) (h2 : In64 c.f2) (h3 : ∀ n, n ∈ c.f3 → In64 n) (h4 : ∀ n, n ∈ c.f4 → In64 n) (hz : c.f3.length ≤ 65536 ∧ c.f4.length ≤ 65536 ∧ c.f5.length ≤ 65537) (r : List Int) : pIns (encIns c ++ r) = some (c, r) := by
  have hop := fieldsOf_op h.op
  have hid := opOf_id hop
  have i0 : In64 c.f0 := ⟨by omega, by omega⟩
  have hpl := pPlaces_enc c.f5 r h.pl
  have hl : ∀ r, 8 * c.f5.length ≤ (c.f5.flatMap NB ++ r).length := fun r => by rw [List.length_append, flat_len]; exact Nat.le_add_right _ _
  obtain ⟨f0, f1, f2, f3, f4, f5⟩ := c
  simp only at *
  obtain ⟨_, hb0, ht0, hl1, hl0, ha0, _⟩ := h
  simp only at *
  rcases fieldsOf_cases f0 with hf | hf | hf | hf | hf | hf | hf | hf
  · omega
  · rw [enc_kind0 (x := ⟨f0, f1, f2, f3, f4, f5⟩) hf]
    obtain ⟨rfl, rfl⟩ := ht0 (by omega)
    obtain rfl := hl0 (by omega)
    obtain rfl := ha0 (by omega)
    obtain rfl := hb0 (by omega)
    rw [List.append_assoc, pIns_of (pNum_NB i0 _), hid, hf, pRest_0]
    rfl
  · rw [enc_kind1 (x := ⟨f0, f1, f2, f3, f4, f5⟩) hf]
    obtain ⟨rfl, rfl⟩ := ht0 (by omega)
    obtain rfl := hl0 (by omega)
    obtain rfl := hb0 (by omega)
    simp only [List.append_assoc]
    rw [pIns_of (pNum_NB i0 _), hid, hf, pRest_1, pNum_NB h1]
    rfl
  · rw [enc_kind3 (x := ⟨f0, f1, f2, f3, f4, f5⟩) hf]
    obtain ⟨rfl, rfl⟩ := ht0 (by omega)
    obtain rfl := hl0 (by omega)
    simp only [List.append_assoc]
    rw [pIns_of (pNum_NB i0 _), hid, hf, pRest_3, pNum_NB h1, Option.bind_some, pNum_NB h2]
    rfl
  · rw [enc_kind8 (x := ⟨f0, f1, f2, f3, f4, f5⟩) hf]
    obtain ⟨rfl, rfl⟩ := ht0 (by omega)
    obtain rfl := ha0 (by omega)
    obtain rfl := hb0 (by omega)
    rw [List.append_assoc, pIns_of (pNum_NB i0 _), hid, hf, pRest_8, ← hl1 (by omega), hpl]
    rfl
  · rw [enc_kind9 (x := ⟨f0, f1, f2, f3, f4, f5⟩) hf]
    obtain ⟨rfl, rfl⟩ := ht0 (by omega)
    obtain rfl := hb0 (by omega)
    simp only [List.append_assoc]
    rw [pIns_of (pNum_NB i0 _), hid, hf, pRest_9, pNum_NB h1, Option.bind_some, ← hl1 (by omega), hpl]
    rfl
  · rw [enc_kind17 (x := ⟨f0, f1, f2, f3, f4, f5⟩) hf]
    obtain ⟨rfl, rfl⟩ := ht0 (by omega)
    obtain rfl := hb0 (by omega)
    simp only [List.append_assoc]
    rw [pIns_of (pNum_NB i0 _), hid, hf, pRest_17, pNum_NB h1, Option.bind_some, pCount_enc (hl r) (by omega), Option.bind_some, hpl]
    rfl
  · rw [enc_kind20 (x := ⟨f0, f1, f2, f3, f4, f5⟩) hf]
    obtain rfl := ha0 (by omega)
    obtain rfl := hb0 (by omega)
    simp only [List.append_assoc]
    rw [pIns_of (pNum_NB i0 _), hid, hf, pRest_20, pList_enc f3 _ h3 (by omega), Option.bind_some, pList_enc f4 _ h4 (by omega), Option.bind_some, pCount_enc (hl r) (by omega), Option.bind_some, hpl]
    rfl
end Go.Proofs.Ytmjafkhkoifopaa.C16
end
section
/- Plain law: an image's bytes say the image, and nothing else does; no image's bytes begin another one's. -/
namespace Go.Proofs.Ytmjafkhkoifopaa.C16
open Go.RowKit Go.Proofs.YtmjafkhkoifopaaW.PrintWords Go.Proofs.YtmjafkhkoifopaaW.PrintLast Go.Proofs.YtmjafkhkoifopaaW.PrintMore Go.Proofs.Ytmjafkhkoifopaa.PCodeDecodes
set_option linter.unusedVariables false
set_option linter.unusedSimpArgs false
section
variable {α : Type} {p : List Int → Option (α × List Int)} {enc : α → List Int}
theorem pMany_enc : ∀ (l : List α) (r : List Int), (∀ x, x ∈ l → ∀ r, p (enc x ++ r) = some (x, r)) → pMany p l.length (l.flatMap enc ++ r) = some (l, r)
  | [], r, _ => rfl
  | x :: l, r, h => by
    rw [List.length_cons, pMany, List.flatMap_cons, List.append_assoc, h x (by simp), Option.bind_some, pMany_enc l r (fun y hy => h y (by simp [hy]))]
    rfl
theorem flat_le (l : List α) (h : ∀ x, 8 ≤ (enc x).length) : 8 * l.length ≤ (l.flatMap enc).length := by
  induction l with
  | nil => simp
  | cons x l ih =>
    have := h x
    rw [List.flatMap_cons, List.length_append, List.length_cons]
    omega
end
theorem pExn_enc (x : S45) (hs : x.f0.size ≤ 4096) (r : List Int) : pExn (encExn x ++ r) = some (x, r) := by
  unfold pExn encExn
  rw [List.append_assoc, pText_enc _ hs, Option.bind_some]
  obtain ⟨s, f⟩ := x
  cases f
  · rw [show (if (⟨s, false⟩ : S45).f1 = true then (1 : Int) else 0) = 0 from rfl, pNum_NB ⟨by omega, by omega⟩]
    rfl
  · rw [show (if (⟨s, true⟩ : S45).f1 = true then (1 : Int) else 0) = 1 from rfl, pNum_NB ⟨by omega, by omega⟩]
    rfl
theorem encExn_ge (x : S45) : 8 ≤ (encExn x).length := by rw [encExn, List.length_append, NB_length]; exact Nat.le_add_left _ _
theorem encText_ge (x : ByteArray) : 8 ≤ (encText x).length := by rw [encText, List.length_append, NB_length]; exact Nat.le_add_right _ _
theorem encIns_ge (x : S43) : 8 ≤ (encIns x).length := by simp only [encIns, List.length_append, NB_length]; omega
theorem pImage_of {t : List Int} : pImage (71 :: 82 :: t) = pExns t := by
  unfold pImage
  rw [if_neg (by simp)]
  exact if_pos rfl
theorem encImage_app (es : List S45) (ts : List ByteArray) (cs : List S43) (r : List Int) : encImage es ts cs ++ r = 71 :: 82 :: (NB es.length ++ (es.flatMap encExn ++ (NB ts.length ++ (ts.flatMap encText ++ (NB cs.length ++ (cs.flatMap encIns ++ r)))))) := by
  simp only [encImage, List.append_assoc, List.cons_append, List.nil_append]
theorem pImage_enc {es : List S45} {ts : List ByteArray} {cs : List S43} (hm : MayOk es ts cs) (hz : Small cs) (hr : Ranged cs) (r : List Int) : pImage (encImage es ts cs ++ r) = pEnd es ts cs r := by
  have h1 := hm.1.2.1
  have h2 := hm.2.1
  have h3 := hm.2.2.2.1
  have l1 : ∀ r, 8 * es.length ≤ (es.flatMap encExn ++ r).length := fun r => by rw [List.length_append]; exact Nat.le_trans (flat_le es encExn_ge) (Nat.le_add_right _ _)
  have l2 : ∀ r, 8 * ts.length ≤ (ts.flatMap encText ++ r).length := fun r => by rw [List.length_append]; exact Nat.le_trans (flat_le ts encText_ge) (Nat.le_add_right _ _)
  have l3 : ∀ r, 8 * cs.length ≤ (cs.flatMap encIns ++ r).length := fun r => by rw [List.length_append]; exact Nat.le_trans (flat_le cs encIns_ge) (Nat.le_add_right _ _)
  rw [encImage_app, pImage_of]
  unfold pExns
  rw [pCount_enc (l1 _) (by omega), Option.bind_some, pMany_enc es _ (fun x hx r => ?_), Option.bind_some]
  · unfold pTexts
    rw [pCount_enc (l2 _) (by omega), Option.bind_some, pMany_enc ts _ (fun x hx r => ?_), Option.bind_some]
    · unfold pCode
      rw [pCount_enc (l3 _) (by omega), Option.bind_some, pMany_enc cs _ (fun x hx r => ?_), Option.bind_some]
      obtain ⟨k, hk, rfl⟩ := List.getElem_of_mem hx
      obtain ⟨r1, r2, r3, r4⟩ := hr _ hx
      exact pIns_enc (plain_of (hm.2.2.2.2.2 k hk) h3) r1 r2 r3 r4 (hz _ hx) r
    · obtain ⟨k, hk, rfl⟩ := List.getElem_of_mem hx
      exact pText_enc _ (text_size hm k hk) r
  · obtain ⟨k, hk, rfl⟩ := List.getElem_of_mem hx
    exact pExn_enc _ (exn_size hm.1 k hk) r
theorem pImage_self {es : List S45} {ts : List ByteArray} {cs : List S43} (hm : MayOk es ts cs) (hz : Small cs) (hr : Ranged cs) : pImage (encImage es ts cs) = some ⟨es, ts, cs⟩ := by
  have h := pImage_enc hm hz hr []
  rw [List.append_nil] at h
  rw [h]
  rfl
theorem pImage_more {es : List S45} {ts : List ByteArray} {cs : List S43} (hm : MayOk es ts cs) (hz : Small cs) (hr : Ranged cs) {more : List Int} (h0 : more ≠ []) : pImage (encImage es ts cs ++ more) = none := by
  rw [pImage_enc hm hz hr]
  exact if_neg h0
end Go.Proofs.Ytmjafkhkoifopaa.C16
end
section
/- Plain law: what is read is in its ranges; what is cut is no image's. -/
namespace Go.Proofs.Ytmjafkhkoifopaa.C16
open Go.RowKit Go.Proofs.YtmjafkhkoifopaaW.PrintWords Go.Proofs.YtmjafkhkoifopaaW.PrintLast Go.Proofs.YtmjafkhkoifopaaW.PrintMore Go.Proofs.Ytmjafkhkoifopaa.PCodeDecodes
set_option linter.unusedVariables false
set_option linter.unusedSimpArgs false
theorem bytes_NB (n : Int) : Bytes (NB n) := by
  intro x hx
  simp only [NB, List.mem_cons, List.not_mem_nil, or_false] at hx
  omega
theorem Bytes.app {a b : List Int} (ha : Bytes a) (hb : Bytes b) : Bytes (a ++ b) := fun x hx => (List.mem_append.1 hx).elim (ha x) (hb x)
theorem bytes_flat {α : Type} {f : α → List Int} (h : ∀ x, Bytes (f x)) (l : List α) : Bytes (l.flatMap f) := fun x hx => by
  obtain ⟨y, _, hy⟩ := List.mem_flatMap.1 hx
  exact h y x hy
theorem bytes_str (s : ByteArray) : Bytes (bytesOf s) := by
  intro x hx
  rw [bytesOf, List.mem_map] at hx
  obtain ⟨b, _, rfl⟩ := hx
  have := b.toNat_lt
  omega
theorem bytes_text (s : ByteArray) : Bytes (encText s) := (bytes_NB _).app (bytes_str s)
theorem bytes_list (l : List Int) : Bytes (encList l) := (bytes_NB _).app (bytes_flat bytes_NB l)
theorem bytes_nil : Bytes [] := fun x hx => absurd hx (by simp)
theorem bytes_ins (c : S43) : Bytes (encIns c) := by
  unfold encIns
  refine Bytes.app (Bytes.app (Bytes.app (Bytes.app (Bytes.app (bytes_NB _) ?_) ?_) ?_) ?_) (bytes_flat bytes_NB _)
  all_goals split
  all_goals first | exact bytes_nil | exact bytes_NB _ | exact (bytes_list _).app (bytes_list _)
theorem bytes_enc (es : List S45) (ts : List ByteArray) (cs : List S43) : Bytes (encImage es ts cs) := by
  unfold encImage
  refine Bytes.app (Bytes.app (Bytes.app (Bytes.app (Bytes.app (Bytes.app ?_ (bytes_NB _)) (bytes_flat (fun x => (bytes_text _).app (bytes_NB _)) _)) (bytes_NB _)) (bytes_flat bytes_text _)) (bytes_NB _)) (bytes_flat bytes_ins _)
  intro x hx
  simp only [List.mem_cons, List.not_mem_nil, or_false] at hx
  omega
end Go.Proofs.Ytmjafkhkoifopaa.C16
end
section
/- What a law's arguments are: images and bytes that the row lets in. -/
namespace Go.Proofs.Ytmjafkhkoifopaa.C16
open Go.RowKit Go.ChangeShapes Go.WideShapes Go.Deep Go.Proofs.YtmjafkhkoifopaaW.PrintWords Go.Proofs.YtmjafkhkoifopaaW.PrintLast Go.Proofs.YtmjafkhkoifopaaW.PrintMore Go.Proofs.Ytmjafkhkoifopaa.PCodeDecodes
set_option linter.unusedVariables false
set_option linter.unusedSimpArgs false
/-- From 'at every place there is one' to a list. -/
theorem list_of {α : Type} {P : Nat → α → Prop} : ∀ (n : Nat), (∀ i, i < n → ∃ x, P i x) → ∃ xs : List α, xs.length = n ∧ ∀ i x, xs[i]? = some x → P i x
  | 0, _ => ⟨[], rfl, fun i x h => by simp at h⟩
  | n + 1, h => by
    obtain ⟨xs, hl, hp⟩ := list_of n (fun i hi => h i (by omega))
    obtain ⟨x, hx⟩ := h n (by omega)
    refine ⟨xs ++ [x], by simp [hl], fun i y hy => ?_⟩
    by_cases hi : i < n
    · rw [List.getElem?_append_left (by omega)] at hy
      exact hp i y hy
    · have hin : i = n := by
        have := (List.getElem?_eq_some_iff.1 hy).1
        rw [List.length_append, hl] at this
        simp at this
        omega
      subst hin
      rw [← hl] at hy
      simp at hy
      rw [← hy, ]
      exact hx
section
variable {H : Type} {enc : TypeId × Value → H} {w : World} {base : Nat} {spare : Nat → Bool} {held : Bool}
theorem open_rows {α : Type} (d : Kd α) (Q : α → Prop) {t e : TypeId} {fuel : Nat} {cs : List Value} {x : DataW H × List MemPlace} (ht : Try.prog.underlying t = some (.slice e)) (hce : Try.prog.cellsOf e = d.sz)
    (hel : ∀ n cs' y, DataW.trod enc Try.prog w base spare held n e cs' = some y → ∃ x, d.K w x cs' ∧ Q x)
    (h : DataW.trod enc Try.prog w base spare held fuel t cs = some x) : ∃ A c xs, cs = [.slice A xs.length c] ∧ xs.length ≤ c ∧ d.C w A xs.length xs ∧ ∀ x, x ∈ xs → Q x := by
  rcases open_slice ht h with ⟨rfl, _⟩ | ⟨a, len, cap, m, n, D, Pl, rfl, _, hl, hm, hmm, _, hx⟩
  · exact ⟨none, 0, [], rfl, Nat.le_refl _, Kd.C_nil d w, fun x hx => absurd hx (by simp)⟩
  · have hlm : len ≤ m := by rw [hmm]; split <;> omega
    obtain ⟨xs, hxl, hxp⟩ := list_of (P := fun i x => ∃ cs', w.cells? base (a.add (i * Try.prog.cellsOf e)) (Try.prog.cellsOf e) = some cs' ∧ d.K w x cs' ∧ Q x) len (fun i hi => by
      obtain ⟨cs', h1, h2⟩ := hx i (by omega)
      obtain ⟨x, hk, hq⟩ := hel _ _ _ h2
      exact ⟨x, cs', h1, hk, hq⟩)
    subst hxl
    refine ⟨some a, cap, xs, rfl, hl, ⟨rfl, by unfold maxLen at hm; omega, fun _ => ⟨a, rfl, fun j p hj => ?_⟩⟩, fun x hx => ?_⟩
    · obtain ⟨cs', h1, hk, _⟩ := hxp j p hj
      obtain ⟨_, h2, h3⟩ := World.cells?_some h1
      rw [hce] at h1 h2 h3
      refine ⟨cs', h2, hk, fun i u hu => ?_⟩
      have hi : i < d.sz := by
        have := (List.getElem?_eq_some_iff.1 hu).1
        omega
      have := h3 i hi
      rw [Deep.add_add] at this
      rw [this, hu]
    · obtain ⟨j, hj, rfl⟩ := List.getElem_of_mem hx
      obtain ⟨_, _, _, hq⟩ := hxp j _ (List.getElem?_eq_getElem hj)
      exact hq
theorem el_int {k : IntKind} {e : TypeId} (ht : Try.prog.underlying e = some (.int k)) : ∀ n cs' y, DataW.trod enc Try.prog w base spare held n e cs' = some y → ∃ x, (Kd.int k).K w x cs' ∧ (k.min ≤ x ∧ x ≤ k.max) := by
  intro n cs' y h
  obtain ⟨x, rfl, _, hw⟩ := DataW.trod_int ht h
  exact ⟨x, rfl, (Lit.wf_int_iff k x).1 hw⟩
theorem el_string : ∀ n cs' y, DataW.trod enc Try.prog w base spare held n 9 cs' = some y → ∃ x, Kd.string.K w x cs' ∧ True := by
  intro n cs' y h
  obtain ⟨s, rfl, _, _⟩ := DataW.trod_string Try.underlying9 h
  exact ⟨s, rfl, trivial⟩
theorem cells45 : Try.prog.cellsOf 45 = 2 := by kernel_rfl
theorem cells43 : Try.prog.cellsOf 43 = 6 := by kernel_rfl
theorem cells26 : Try.prog.cellsOf 26 = 3 := by kernel_rfl
theorem cells9 : Try.prog.cellsOf 9 = 1 := by kernel_rfl
theorem cells4 : Try.prog.cellsOf 4 = 1 := by kernel_rfl
theorem cells3 : Try.prog.cellsOf 3 = 1 := by kernel_rfl
theorem cells2 : Try.prog.cellsOf 2 = 1 := by kernel_rfl
theorem cells40 : Try.prog.cellsOf 40 = 1 := by kernel_rfl
theorem cells41 : Try.prog.cellsOf 41 = 1 := by kernel_rfl
theorem cells22 : Try.prog.cellsOf 22 = 1 := by kernel_rfl
theorem cells23 : Try.prog.cellsOf 23 = 1 := by kernel_rfl
theorem cells24 : Try.prog.cellsOf 24 = 1 := by kernel_rfl
theorem el_45 : ∀ n cs' y, DataW.trod enc Try.prog w base spare held n 45 cs' = some y → ∃ x, k45.K w x cs' ∧ True := by
  intro n cs' y h
  obtain ⟨xs, m, _, _, hl, hxl, hf⟩ := DataW.trod_struct Try.underlying45 h
  rw [cells45] at hl
  match cs', hl, xs, hxl with
  | [v0, v1], _, [y0, y1], _ =>
    have g0 : DataW.trod enc Try.prog w base spare held m 9 (List.take (Try.prog.cellsOf 9) (List.drop 0 [v0, v1])) = some y0 := hf 0 _ rfl
    rw [cells9] at g0
    replace g0 : DataW.trod enc Try.prog w base spare held m 9 [v0] = some y0 := g0
    have g1 : DataW.trod enc Try.prog w base spare held m 4 (List.take (Try.prog.cellsOf 4) (List.drop 1 [v0, v1])) = some y1 := hf 1 _ rfl
    rw [cells4] at g1
    replace g1 : DataW.trod enc Try.prog w base spare held m 4 [v1] = some y1 := g1
    obtain ⟨s, e0, _, _⟩ := DataW.trod_string Try.underlying9 g0
    obtain ⟨b, e1, _⟩ := DataW.trod_bool Try.underlying4 g1
    cases e0
    cases e1
    exact ⟨⟨s, b⟩, k45_mk w ⟨s, b⟩, trivial⟩
theorem el_43 : ∀ n cs' y, DataW.trod enc Try.prog w base spare held n 43 cs' = some y → ∃ x : S43, k43.K w x cs' ∧ (In64 x.f1 ∧ In64 x.f2 ∧ (∀ n, n ∈ x.f3 → In64 n) ∧ (∀ n, n ∈ x.f4 → In64 n)) := by
  intro n cs' y h
  obtain ⟨xs, m, _, _, hl, hxl, hf⟩ := DataW.trod_struct Try.underlying43 h
  rw [cells43] at hl
  match cs', hl, xs, hxl with
  | [v0, v1, v2, v3, v4, v5], _, [y0, y1, y2, y3, y4, y5], _ =>
    have g0 : DataW.trod enc Try.prog w base spare held m 3 (List.take (Try.prog.cellsOf 3) (List.drop 0 [v0, v1, v2, v3, v4, v5])) = some y0 := hf 0 _ rfl
    rw [cells3] at g0
    replace g0 : DataW.trod enc Try.prog w base spare held m 3 [v0] = some y0 := g0
    have g1 : DataW.trod enc Try.prog w base spare held m 2 (List.take (Try.prog.cellsOf 2) (List.drop 1 [v0, v1, v2, v3, v4, v5])) = some y1 := hf 1 _ rfl
    rw [cells2] at g1
    replace g1 : DataW.trod enc Try.prog w base spare held m 2 [v1] = some y1 := g1
    have g2 : DataW.trod enc Try.prog w base spare held m 2 (List.take (Try.prog.cellsOf 2) (List.drop 2 [v0, v1, v2, v3, v4, v5])) = some y2 := hf 2 _ rfl
    rw [cells2] at g2
    replace g2 : DataW.trod enc Try.prog w base spare held m 2 [v2] = some y2 := g2
    have g3 : DataW.trod enc Try.prog w base spare held m 40 (List.take (Try.prog.cellsOf 40) (List.drop 3 [v0, v1, v2, v3, v4, v5])) = some y3 := hf 3 _ rfl
    rw [cells40] at g3
    replace g3 : DataW.trod enc Try.prog w base spare held m 40 [v3] = some y3 := g3
    have g4 : DataW.trod enc Try.prog w base spare held m 40 (List.take (Try.prog.cellsOf 40) (List.drop 4 [v0, v1, v2, v3, v4, v5])) = some y4 := hf 4 _ rfl
    rw [cells40] at g4
    replace g4 : DataW.trod enc Try.prog w base spare held m 40 [v4] = some y4 := g4
    have g5 : DataW.trod enc Try.prog w base spare held m 41 (List.take (Try.prog.cellsOf 41) (List.drop 5 [v0, v1, v2, v3, v4, v5])) = some y5 := hf 5 _ rfl
    rw [cells41] at g5
    replace g5 : DataW.trod enc Try.prog w base spare held m 41 [v5] = some y5 := g5
    obtain ⟨n0, e0, _, _⟩ := DataW.trod_int Try.underlying3 g0
    obtain ⟨n1, e1, _, w1⟩ := DataW.trod_int Try.underlying2 g1
    obtain ⟨n2, e2, _, w2⟩ := DataW.trod_int Try.underlying2 g2
    obtain ⟨A3, c3, l3, e3, h3, r3, q3⟩ := open_rows (Kd.int .i64) _ Try.underlying40 cells2 (el_int Try.underlying2) g3
    obtain ⟨A4, c4, l4, e4, h4, r4, q4⟩ := open_rows (Kd.int .i64) _ Try.underlying40 cells2 (el_int Try.underlying2) g4
    obtain ⟨A5, c5, l5, e5, h5, r5, q5⟩ := open_rows (Kd.int .i64) _ Try.underlying41 cells3 (el_int Try.underlying3) g5
    cases e0
    cases e1
    cases e2
    cases e3
    cases e4
    cases e5
    exact ⟨⟨n0, n1, n2, l3, l4, l5⟩, k43_mk w ⟨n0, n1, n2, l3, l4, l5⟩ h3 r3 h4 r4 h5 r5, (Lit.wf_int_iff _ _).1 w1, (Lit.wf_int_iff _ _).1 w2, q3, q4⟩
theorem open_image {fuel : Nat} {cs : List Value} {x : DataW H × List MemPlace} (h : DataW.trod enc Try.prog w base spare held fuel 26 cs = some x) :
    ∃ A0 c0 A1 c1 A2 c2 es ts cs', cs = [.slice A0 es.length c0, .slice A1 ts.length c1, .slice A2 cs'.length c2] ∧ ImgAt w A0 c0 A1 c1 A2 c2 es ts cs' ∧ Ranged cs' := by
  obtain ⟨xs, m, _, _, hl, hxl, hf⟩ := DataW.trod_struct Try.underlying26 h
  rw [cells26] at hl
  match cs, hl, xs, hxl with
  | [v0, v1, v2], _, [y0, y1, y2], _ =>
    have g0 : DataW.trod enc Try.prog w base spare held m 22 (List.take (Try.prog.cellsOf 22) (List.drop 0 [v0, v1, v2])) = some y0 := hf 0 _ rfl
    rw [cells22] at g0
    replace g0 : DataW.trod enc Try.prog w base spare held m 22 [v0] = some y0 := g0
    have g1 : DataW.trod enc Try.prog w base spare held m 23 (List.take (Try.prog.cellsOf 23) (List.drop 1 [v0, v1, v2])) = some y1 := hf 1 _ rfl
    rw [cells23] at g1
    replace g1 : DataW.trod enc Try.prog w base spare held m 23 [v1] = some y1 := g1
    have g2 : DataW.trod enc Try.prog w base spare held m 24 (List.take (Try.prog.cellsOf 24) (List.drop 2 [v0, v1, v2])) = some y2 := hf 2 _ rfl
    rw [cells24] at g2
    replace g2 : DataW.trod enc Try.prog w base spare held m 24 [v2] = some y2 := g2
    obtain ⟨A0, c0, es, e0, h0, r0, _⟩ := open_rows k45 _ Try.underlying22 cells45 el_45 g0
    obtain ⟨A1, c1, ts, e1, h1, r1, _⟩ := open_rows Kd.string _ Try.underlying23 cells9 el_string g1
    obtain ⟨A2, c2, cs', e2, h2, r2, q2⟩ := open_rows k43 _ Try.underlying24 cells43 el_43 g2
    cases e0
    cases e1
    cases e2
    exact ⟨A0, c0, A1, c1, A2, c2, es, ts, cs', rfl, ⟨r0, h0, r1, h1, r2, h2⟩, q2⟩
/-- An argument that is an image. -/
theorem arg_image {r : Reach} {b0 : Nat} {v : Value} {d : DataW H} {ps : List MemPlace} (hval : Value.okWide Try.prog w r b0 26 v) (h : DataW.Trod enc Try.prog w base spare held 26 v d ps) :
    ∃ A0 c0 A1 c1 A2 c2 es ts cs', v = imgV A0 c0 A1 c1 A2 c2 es ts cs' ∧ ImgAt w A0 c0 A1 c1 A2 c2 es ts cs' ∧ Ranged cs' := by
  obtain ⟨cs, rfl, _⟩ := okWide_struct Try.underlying26 hval
  obtain ⟨fuel, hf⟩ := h
  obtain ⟨A0, c0, A1, c1, A2, c2, es, ts, cs', e, hi, hr⟩ := open_image hf
  refine ⟨A0, c0, A1, c1, A2, c2, es, ts, cs', ?_, hi, hr⟩
  have : cs.toList = [.slice A0 es.length c0, .slice A1 ts.length c1, .slice A2 cs'.length c2] := e
  rw [imgV, ← Array.toArray_toList (xs := cs), this]
end
end Go.Proofs.Ytmjafkhkoifopaa.C16
end
