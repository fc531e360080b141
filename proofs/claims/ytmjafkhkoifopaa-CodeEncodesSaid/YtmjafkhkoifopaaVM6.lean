import Derived.Test.YtmjafkhkoifopaaVM5
import Derived.ArgAppend
section
/- code.Encode: where its walk stands. -/
namespace Go.Proofs.Ytmjafkhkoifopaa.C16
open Go.RowKit Go.Proofs.YtmjafkhkoifopaaW.PrintWords Go.Proofs.YtmjafkhkoifopaaW.PrintLast Go.Proofs.YtmjafkhkoifopaaW.PrintMore Go.Proofs.Ytmjafkhkoifopaa.PCodeDecodes
set_option linter.unusedVariables false
set_option linter.unusedSimpArgs false
abbrev Bx := Nat × Array Value × TypeId
/-- The row of bytes v is this call's own and holds acc; the boxes bx stand. -/
structure EN (w0 w : World) (bx : List Bx) (v : Value) (acc : List Int) : Prop where
  row : Kd.R (Kd.int .u8) 5 w w0.heap.size (fun k => w0.heap.size ≤ k) v acc
  bel : Below w0.heap.size w0 w
  box : ∀ p, p ∈ bx → w.heap[p.1]? = some (.cells p.2.1 p.2.2 (0, 0)) ∧ 5 ≠ p.2.2
section
variable {w0 w w' : World} {bx : List Bx} {b : Bx} {v v' : Value} {acc acc' : List Int}
theorem EN.push (h : EN w0 w bx v acc) (cs : Array Value) (t : TypeId) (ht : 5 ≠ t) : EN w0 (w.alloc (.cells cs t)) ((w.heap.size, cs, t) :: bx) v acc :=
  ⟨Kd.R_alloc h.row _, below_alloc h.bel _, fun p hp => by
    rcases List.mem_cons.1 hp with rfl | hp
    · exact ⟨blk_new w _, ht⟩
    · exact ⟨blk_alloc (h.box p hp).1 _, (h.box p hp).2⟩⟩
theorem EN.alloc (h : EN w0 w bx v acc) (o : Obj) : EN w0 (w.alloc o) bx v acc :=
  ⟨Kd.R_alloc h.row _, below_alloc h.bel _, fun p hp => ⟨blk_alloc (h.box p hp).1 _, (h.box p hp).2⟩⟩
theorem EN.pop (h : EN w0 w (b :: bx) v acc) : EN w0 w bx v acc := ⟨h.row, h.bel, fun p hp => h.box p (List.mem_cons_of_mem _ hp)⟩
theorem EN.drewN (h : EN w0 w bx v acc) (n : Nat) : EN w0 (w.drewN n) bx v acc := ⟨Kd.R_drewN h.row n, pw_below_drewN h.bel n, h.box⟩
theorem EN.drew (h : EN w0 w bx v acc) : EN w0 w.drew bx v acc := h.drewN 1
theorem EN.moved (h : EN w0 w bx v acc) (ho : Kd.R (Kd.int .u8) 5 w' w0.heap.size (fun k => some k = v.ownBlock ∨ w.heap.size ≤ k) v' acc') (hb : Below w0.heap.size w0 w') (hk : Kept w w' (fun k => some k = v.ownBlock)) : EN w0 w' bx v' acc' :=
  ⟨Kd.R_mono ho (fun k hk => hk.elim (fun e => h.row.1 k e.symm) (fun e => Nat.le_trans h.bel.size e)), hb, fun p hp => ⟨blk_kept (h.box p hp).1 hk (Kd.R_ne h.row (h.box p hp).1 (h.box p hp).2), (h.box p hp).2⟩⟩
theorem EN.cells (h : EN w0 w bx v acc) (p : Bx) (hp : p ∈ bx) : (∀ j, w.cell? ⟨p.1, j, none⟩ = p.2.1[j]?) ∧ (∀ j, w.frozen? ⟨p.1, j, none⟩ = false) :=
  ⟨fun j => blk_cell (h.box p hp).1 j, fun j => blk_frozen (h.box p hp).1 j⟩
theorem C_box {W : World} {g : Nat} {x : Int} (h : W.heap[g]? = some (.cells #[.int .i64 x] 2 (0, 0))) : Kd.C (Kd.int .i64) W (some ⟨g, 0, none⟩) ([x] : List Int).length [x] := by
  refine ⟨rfl, by simp, fun _ => ⟨_, rfl, fun j p hp => ⟨[.int .i64 x], rfl, ?_, fun i u hu => ?_⟩⟩⟩
  · match j, hp with
    | 0, hp => cases hp; rfl
  · match j, hp, i, hu with
    | 0, hp, 0, hu =>
      cases hu
      exact (blk_cell h 0).trans rfl
theorem enc_num (h : EN w0 w bx v acc) (x : Int) (hl : acc.length + 8 < 140737488355328) :
    Calls Try.prog 25 #[v, .slice (some ⟨w.heap.size, 0, none⟩) 1 1] (w.alloc (.cells #[.int .i64 x] 2)) fun e w' => ∃ v', e = .returned v' ∧ EN w0 w' bx v' (acc ++ NB x) := by
  have h1 := h.push #[.int .i64 x] 2 (by decide)
  have hn := numbers_f' acc [x] (by simpa using hl) 11 (by simp)
  refine (code_numbers.calls 11 (fun k => some k = v.ownBlock) v acc (some ⟨w.heap.size, 0, none⟩) 1 [x] _ w0 _ h1.bel (Kd.R_tight rfl h1.row) (fun W_ hk => C_box ?_) (by simp) hn).mono ?_
  · exact blk_kept (h1.box _ List.mem_cons_self).1 hk (Kd.R_ne h1.row (h1.box _ List.mem_cons_self).1 (show (5 : Nat) ≠ 2 by decide))
  · rintro e w' ⟨v', rfl, ho, hb, hk⟩
    refine ⟨v', rfl, ?_⟩
    have := (h1.moved ho hb hk).pop
    simpa using this
theorem enc_text (h : EN w0 w bx v acc) (s : ByteArray) (hl : acc.length + 8 + s.size < 140737488355328) :
    Calls Try.prog 26 #[v, .string s] w fun e w' => ∃ v', e = .returned v' ∧ EN w0 w' bx v' (acc ++ encText s) := by
  refine (code_text.calls 11 (fun k => some k = v.ownBlock) v acc s _ w0 _ h.bel (Kd.R_tight rfl h.row) (text_f acc s hl)).mono ?_
  rintro e w' ⟨v', rfl, ho, hb, hk⟩
  exact ⟨v', rfl, h.moved ho hb hk⟩
theorem enc_list (h : EN w0 w bx v acc) (A : Option Addr) (c : Nat) (l : List Int) (hc : l.length ≤ c) (hr : Kd.C (Kd.int .i64) w0 A l.length l) (hl : acc.length + 8 + 8 * l.length < 140737488355328) :
    Calls Try.prog 29 #[v, .slice A l.length c] w fun e w' => ∃ v', e = .returned v' ∧ EN w0 w' bx v' (acc ++ encList l) := by
  refine (code_list.calls (10 * l.length + 11) (fun k => some k = v.ownBlock) v acc A c l _ w0 _ h.bel (Kd.R_tight rfl h.row) (Kd.C_kept_came (Kd.heap_int _) hr h.bel (fun k hk => h.row.1 k hk.symm)) hc (list_f acc l hl)).mono ?_
  rintro e w' ⟨v', rfl, ho, hb, hk⟩
  exact ⟨v', rfl, h.moved ho hb hk⟩
end
def encExn (x : S45) : List Int := encText x.f0 ++ NB (if x.f1 then 1 else 0)
def encIns (c : S43) : List Int :=
  NB c.f0 ++ (if fieldsOf c.f0 = 1 ∨ fieldsOf c.f0 = 3 ∨ fieldsOf c.f0 = 9 ∨ fieldsOf c.f0 = 17 then NB c.f1 else []) ++ (if fieldsOf c.f0 = 3 then NB c.f2 else []) ++
  (if fieldsOf c.f0 = 20 then encList c.f3 ++ encList c.f4 else []) ++ (if fieldsOf c.f0 = 17 ∨ fieldsOf c.f0 = 20 then NB c.f5.length else []) ++ c.f5.flatMap NB
def encImage (es : List S45) (ts : List ByteArray) (cs : List S43) : List Int :=
  [71, 82] ++ NB es.length ++ es.flatMap encExn ++ NB ts.length ++ ts.flatMap encText ++ NB cs.length ++ cs.flatMap encIns
def Small (cs : List S43) : Prop := ∀ c, c ∈ cs → c.f3.length ≤ 65536 ∧ c.f4.length ≤ 65536 ∧ c.f5.length ≤ 65537
end Go.Proofs.Ytmjafkhkoifopaa.C16
end
section
/- code.numbers: behind the head of an image, a row that is full. -/
namespace Go.Proofs.Ytmjafkhkoifopaa.C16
open Go.RowKit Go.Proofs.YtmjafkhkoifopaaW.PrintWords Go.Proofs.YtmjafkhkoifopaaW.PrintLast Go.Proofs.YtmjafkhkoifopaaW.PrintMore Go.Proofs.Ytmjafkhkoifopaa.PCodeDecodes
set_option linter.unusedVariables false
set_option linter.unusedSimpArgs false
theorem NB_take (x : Int) (j : Nat) (h : j < 8) : (NB x).take (j + 1) = (NB x).take j ++ [x / 2 ^ (8 * j) % 256] := by
  obtain rfl | rfl | rfl | rfl | rfl | rfl | rfl | rfl : j = 0 ∨ j = 1 ∨ j = 2 ∨ j = 3 ∨ j = 4 ∨ j = 5 ∨ j = 6 ∨ j = 7 := by omega
  all_goals simp [NB]
abbrev Mine (w w' : World) (v : Value) (l : List Int) : Prop := Kd.R (Kd.int .u8) 5 w' w.heap.size (fun _ => True) v l
theorem full_cells {w : World} {g : Nat} {fz : Nat × Nat} (h : w.heap[g]? = some (.cells #[.int .u8 71, .int .u8 82] 5 fz)) (o : Obj) : ∀ j u, [Value.int .u8 71, .int .u8 82][j]? = some u → (w.alloc o).cell? ((⟨g, 0, none⟩ : Addr).add j) = some u := by
  intro j u hu
  rw [Addr.add_lit, Nat.zero_add]
  have h1 : w.cell? ⟨g, j, none⟩ = some u := by
    rw [show w.cell? ⟨g, j, none⟩ = #[Value.int .u8 71, .int .u8 82][j]? from by simp [World.cell?, h]]
    simpa using hu
  exact cell_alloc h1 o
theorem new_cell (w : World) (u0 : Value) : ∀ j u, [u0][j]? = some u → (w.alloc (.cells #[u0] 5)).cell? ((⟨w.heap.size, 0, none⟩ : Addr).add j) = some u := by
  intro j u hu
  rw [Addr.add_lit, Nat.zero_add]
  refine (blk_cell (blk_new w (.cells #[u0] 5)) j).trans ?_
  simpa using hu
set_option maxRecDepth 100000 in
set_option maxHeartbeats 1000000 in
theorem numbers_first (w : World) (g m : Nat) (fz : Nat × Nat) (hg : w.heap[g]? = some (.cells #[.int .u8 71, .int .u8 82] 5 fz)) (x : Int) (hx : w.cell? ⟨m, 0, none⟩ = some (.int .i64 x)) :
    Calls Try.prog 25 #[.slice (some ⟨g, 0, none⟩) 2 2, .slice (some ⟨m, 0, none⟩) 1 1] w fun e w' => ∃ v, e = .returned v ∧ Mine w w' v ([71, 82] ++ NB x) ∧ Below w.heap.size w w' := by
  have HG := Aside0.mk hg
  clear hg
  go_enter Try.func25, Try.ntmps25
  go_wp2
  go_loopw [0, 10] (fun v i wr => (i = .int .i64 0 ∧ v = .slice (some ⟨g, 0, none⟩) 2 2 ∧ w = wr) ∨ (i = .int .i64 1 ∧ Aside0 (Mine w wr v ([71, 82] ++ NB x)) ∧ Aside0 (Below w.heap.size w wr))) (fun _ i _ => 1 - (intOf i).toNat)
  case atStart => exact .inl ⟨rfl, rfl, rfl⟩
  case round =>
    rcases hrel with ⟨rfl, rfl, rfl⟩ | ⟨rfl, HO, HB⟩
    · go_wp2
      go_loopw [0, 14] (fun v i wr => ∃ j : Nat, j ≤ 8 ∧ i = .int .i64 j ∧ ((j = 0 ∧ v = .slice (some ⟨g, 0, none⟩) 2 2 ∧ w = wr) ∨ (0 < j ∧ Aside0 (Mine w wr v ([71, 82] ++ (NB x).take j)) ∧ Aside0 (Below w.heap.size w wr)))) (fun _ i _ => 8 - (intOf i).toNat)
      case atStart => exact ⟨0, by omega, rfl, .inl ⟨rfl, rfl, rfl⟩⟩
      case round =>
        obtain ⟨j, hj, rfl, hrel⟩ := hrel
        by_cases hlt : j < 8
        · have e1 : IntKind.i64.wrap (8 * (j : Int)) = 8 * j := (i64_w _).trans (wrap_id (by omega) (by omega))
          have e2 : decide (0 ≤ 8 * (j : Int)) = true := decide_eq_true (by omega)
          have e2' := eq_true (show 0 ≤ 8 * (j : Int) by omega)
          obtain ⟨y, hy⟩ : ∃ y : Int, x / 2 ^ (8 * j) = y := ⟨_, rfl⟩
          have e3 : x / 2 ^ min (8 * (j : Int)).toNat 64 = y := by rw [show (8 * (j : Int)).toNat = 8 * j by omega, Nat.min_eq_left (by omega), hy]
          have e4 : 8 * (j : Int) ≤ 64 → x / 2 ^ (8 * (j : Int)).toNat = y := fun _ => by rw [show (8 * (j : Int)).toNat = 8 * j by omega, hy]
          have HT := Aside0.mk (NB_take x j hlt)
          rw [hy] at HT
          rcases hrel with ⟨rfl, rfl, rfl⟩ | ⟨h0, HO, HB⟩
          · obtain ⟨i0, hi, hzz⟩ := Option.map_eq_some_iff.1 info5
            simp only [Prod.mk.injEq] at hzz
            obtain ⟨hz0, hz1, hz2⟩ := hzz
            go_wp2_with (at_builtin; refine wpList_append_grows (w.alloc (.cells #[.int .u8 (x % 256)] 5)) rfl (.tmp 17) (.tmp 23) 29 rfl 5 i0 (.int .u8 0) 1 1 Try.underlying29 hi hz0 hz1 hz2 rfl (by decide) (some ⟨g, 0, none⟩) 2 2 [.int .u8 71, .int .u8 82] rfl (fun h => by cases h) rfl (fun b hb => by cases hb; exact full_cells HG.out _) ⟨w.heap.size, 0, none⟩ 1 1 [.int .u8 (x % 256)] rfl rfl (new_cell w _) (by intro u hu; rw [List.mem_singleton.1 hu]; rfl) (by omega) (by decide) (by decide) ?_; intro v' w1 ho hgr; have HO1 := Aside0.mk (show Mine w w1 v' ([71, 82] ++ [x % 256]) from Kd.R_lower (Kd.R_of_own (h1 := fun _ => rfl) (xs := [71, 82, x % 256]) ho (fun _ _ => trivial)) (by simp)); have HB1 := Aside0.mk ((below_alloc (Below.refl w.heap.size w) _).grown hgr (by simp) (fun k hk => by cases hk)); clear ho hgr)
            go_roundw
            case rel => exact ⟨1, by omega, by go_num, .inr ⟨by omega, HO1, HB1⟩⟩
            case measure => simp [intOf]
          · go_wp2_with (at_builtin; refine Kd.R_append (Kd.int .u8) (w0 := w) w.heap.size rfl (.tmp 17) (.tmp 23) 29 5 (.int .u8 0) 1 rfl Try.underlying29 info5 rfl (by decide) (by omega) u0 ([71, 82] ++ (NB x).take j) (y % 256) [.int .u8 (y % 256)] (fun _ => True) (fun _ => False) rfl rfl ?aP (fun _ hk => hk.elim) (fun _ _ => trivial) ?aO ?aB ?aS ?aL ?_; (case aP => exact rfl); (case aB => exact HB.out); (case aO => exact HO.out); (case aS => exact HB.out.size); (case aL => simp [NB]; omega); intro v1 w1 ho hb hg hat; rw [List.append_assoc, ← HT.out] at ho; have HO1 := Aside0.mk ho; have HB1 := Aside0.mk hb; clear ho hb hg hat)
            go_roundw
            case rel => exact ⟨j + 1, by omega, by go_num, .inr ⟨by omega, HO1, HB1⟩⟩
            case measure => simp [intOf]; omega
        · obtain rfl : j = 8 := by omega
          rcases hrel with ⟨h0, _⟩ | ⟨h0, HO, HB⟩
          · omega
          · go_wp2
            go_roundw
            case rel => exact .inr ⟨by go_num, HO, HB⟩
            case measure => simp [intOf]
    · go_wp2
      go_ret
      exact ⟨_, rfl, HO.out, HB.out⟩
end Go.Proofs.Ytmjafkhkoifopaa.C16
end
section
/- code.Encode: an image's bytes. -/
namespace Go.Proofs.Ytmjafkhkoifopaa.C16
open Go.RowKit Go.Proofs.YtmjafkhkoifopaaW.PrintWords Go.Proofs.YtmjafkhkoifopaaW.PrintLast Go.Proofs.YtmjafkhkoifopaaW.PrintMore Go.Proofs.Ytmjafkhkoifopaa.PCodeDecodes
set_option linter.unusedVariables false
set_option linter.unusedSimpArgs false
def Enc (es : List S45) (ts : List ByteArray) (cs : List S43) (l : List Int) (err : Int) : Prop :=
  (¬ MayOk es ts cs ∧ l = [] ∧ err = 5) ∨ (MayOk es ts cs ∧ 65536 < (encImage es ts cs).length ∧ l = [] ∧ err = 3) ∨ (MayOk es ts cs ∧ (encImage es ts cs).length ≤ 65536 ∧ l = encImage es ts cs ∧ err = 0)
def EncGives (es : List S45) (ts : List ByteArray) (cs : List S43) (w : World) (e : Ending) (w' : World) : Prop := ∃ l err v, Enc es ts cs l err ∧ e = .returned (.tuple #[v, .int .i64 err]) ∧
  Kd.R (Kd.int .u8) 5 w' w.heap.size (fun _ => True) v l ∧ Below w.heap.size w w'
theorem encode_form (A0 : Option Addr) (c0 : Nat) (A1 : Option Addr) (c1 : Nat) (A2 : Option Addr) (c2 : Nat) (es : List S45) (ts : List ByteArray) (cs : List S43) (w : World) (hI : ImgAt w A0 c0 A1 c1 A2 c2 es ts cs) (hz : Sized cs) (hm : ¬ MayOk es ts cs) :
    Calls Try.prog 13 #[imgV A0 c0 A1 c1 A2 c2 es ts cs] w fun e w' => EncGives es ts cs w e w' := by
  have HI := Aside0.mk hI
  have HZ := Aside0.mk hz
  have HM := Aside0.mk hm
  clear hI hz hm
  go_enter Try.func13, Try.ntmps13
  go_wp2_with (go_at_call 11; refine (may_calls A0 c0 A1 c1 A2 c2 es ts cs _ (HI.out.below (below_alloc (Below.refl _ _) _)) HZ.out).mono ?_; rintro e w1 ⟨hs, hb⟩; obtain rfl := hs.is (b := false) ⟨fun e_ => absurd e_ (by simp), fun h_ => absurd h_ HM.out⟩; have HB := Aside0.mk (below_then (below_alloc (Below.refl w.heap.size w) _) (by simp) hb); clear hs hb)
  exact bodyPost_ret (v := .tuple #[.slice none 0 0, .int .i64 5]) (by simp [results, Try.results13, go_sem]) rfl ⟨[], 5, _, .inl ⟨HM.out, rfl, rfl⟩, rfl, Kd.R_nil _ _ _ _ _, HB.out⟩
def grWorld (w : World) : World := (w.alloc (.cells #[.int .u8 71, .int .u8 82] 5)).freeze ⟨w.heap.size, 2, none⟩ 1
theorem grWorld_old (w : World) (j : Nat) (hj : j < w.heap.size) : (grWorld w).heap[j]? = w.heap[j]? := by
  have h1 : w.heap.size ≠ j := by omega
  simp [grWorld, World.freeze, World.alloc, -World.alloc_eq, Array.getElem?_modify, Array.getElem?_push, h1, Ne.symm h1]
theorem grWorld_new (w : World) : (grWorld w).heap[w.heap.size]? = some (.cells #[.int .u8 71, .int .u8 82] 5 (2, 3)) := by
  simp [grWorld, World.freeze, World.alloc, -World.alloc_eq, Array.getElem_modify, Array.getElem_push]
theorem grWorld_size (w : World) : (grWorld w).heap.size = w.heap.size + 1 := by
  simp [grWorld, World.freeze, World.alloc, -World.alloc_eq]
theorem grWorld_below (w : World) : Below w.heap.size w (grWorld w) := by
  refine ⟨?_, ?_, ?_, by rw [grWorld_size]; omega, grWorld_old w⟩
  all_goals simp [grWorld, World.freeze, World.alloc, -World.alloc_eq]
@[go_sem] theorem conv_gr (w : World) : Sem.run Try.prog (convert 29 29 (.slice (some ⟨w.heap.size, 0, none⟩) 2 2)) (w.alloc (.cells #[.int .u8 71, .int .u8 82] 5)) = .ok (.slice (some ⟨w.heap.size, 0, none⟩) 2 2) (grWorld w) := by
  have hsh : (w.alloc (.cells #[.int .u8 71, .int .u8 82] 5)).shape? w.heap.size = some (5, 2) := by
    simp [World.shape?, World.alloc, -World.alloc_eq]
  simp [convert, run_underlying Try.underlying29, run_underlying Try.underlying5, markStringish, grWorld, hsh, Result.andThen]
theorem EN.start {w w1 w2 : World} {x : Array Value} {v : Value} {l : List Int} {o : Obj} (hb : Below (w.alloc (.cells x 26)).heap.size (w.alloc (.cells x 26)) w1) (hb2 : Below ((grWorld w1).alloc o).heap.size ((grWorld w1).alloc o) w2) (ho : Mine ((grWorld w1).alloc o) w2 v l) : EN w w2 [(w.heap.size, x, 26)] v l := by
  have hs := hb.size
  simp at hs
  have hs2 := grWorld_size w1
  have h1 : Below w.heap.size w w1 := below_then (below_alloc (Below.refl w.heap.size w) _) (by simp) hb
  have h2 : Below w.heap.size w ((grWorld w1).alloc o) := (below_then h1 h1.size (grWorld_below w1)).alloc (by omega) o
  refine ⟨Kd.R_mono (Kd.R_bound (Kd.R_lower ho (by simp; omega))) (fun k hk => hk.2.1), below_then h2 h2.size hb2, fun p hp => ?_⟩
  obtain rfl := List.mem_singleton.1 hp
  exact ⟨blk_below (blk_alloc (blk_below (blk_below (blk_new w _) hb) (grWorld_below w1)) o) hb2, by simp⟩
theorem at_45 {w : World} {A : Option Addr} {n : Nat} {xs : List S45} (h : Kd.C k45 w A n xs) (k : Nat) (hk : k < xs.length) : ∃ ad , A = some ad ∧ w.cell? (ad.add (k * 2)) = some (.string xs[k].f0) ∧ w.cell? ⟨(ad.add (k * 2)).block, (ad.add (k * 2)).off + 1, none⟩ = some (.bool xs[k].f1) := by
  obtain ⟨ad, e, h1, h2⟩ := at_T45 h k (by omega) (by have := h.1; omega)
  have e3 : rd_T45 xs (k : Int) = xs[k] := by simp [rd_T45, List.getD_eq_getElem?_getD, hk]
  rw [e3] at h1 h2
  exact ⟨ad, e, h1, h2⟩
theorem encText_length (s : ByteArray) : (encText s).length = 8 + s.size := by simp [encText, NB_length, bytesOf_length]

theorem exn_step {es : List S45} {acc pre : List Int} {k : Nat} (h : acc = pre ++ (es.take k).flatMap encExn) (hk : k < es.length) : acc ++ encText es[k].f0 ++ NB (if es[k].f1 then 1 else 0) = pre ++ (es.take (k + 1)).flatMap encExn := by
  rw [h, List.take_succ_eq_append_getElem hk, List.flatMap_append, List.flatMap_cons, List.flatMap_nil, List.append_nil]
  simp only [encExn, List.append_assoc]
theorem exn_size {es : List S45} (h : ExnsOk es) (k : Nat) (hk : k < es.length) : es[k].f0.size ≤ 4096 := by
  have h1 := (h.2.2 k hk).2.1
  have e3 : rd_T45 es (k : Int) = es[k] := by simp [rd_T45, List.getD_eq_getElem?_getD, hk]
  unfold nm at h1
  rwa [e3] at h1
theorem EN.at_ {w0 w w' : World} {bx : List Bx} {v : Value} {acc : List Int} (h : EN w0 w bx v acc) (n : Nat) (hw : w' = w.drewN n) : EN w0 w' bx v acc := hw ▸ h.drewN n
theorem exn_end {es : List S45} {acc pre : List Int} {k : Nat} (h : acc = pre ++ (es.take k).flatMap encExn) (hk : ¬ k < es.length) : acc = pre ++ es.flatMap encExn := by
  rw [h, List.take_of_length_le (by omega)]
theorem text_end {ts : List ByteArray} {acc pre : List Int} {k : Nat} (h : acc = pre ++ (ts.take k).flatMap encText) (hk : ¬ k < ts.length) : acc = pre ++ ts.flatMap encText := by
  rw [h, List.take_of_length_le (by omega)]
theorem ins_end {cs : List S43} {acc pre : List Int} {k : Nat} (h : acc = pre ++ (cs.take k).flatMap encIns) (hk : ¬ k < cs.length) : acc = pre ++ cs.flatMap encIns := by
  rw [h, List.take_of_length_le (by omega)]
theorem text_step {ts : List ByteArray} {acc pre : List Int} {k : Nat} (h : acc = pre ++ (ts.take k).flatMap encText) (hk : k < ts.length) : acc ++ encText ts[k] = pre ++ (ts.take (k + 1)).flatMap encText := by
  rw [h, List.take_succ_eq_append_getElem hk, List.flatMap_append, List.flatMap_cons, List.flatMap_nil, List.append_nil]
  simp only [List.append_assoc]
theorem ins_step {cs : List S43} {acc pre : List Int} {k : Nat} (h : acc = pre ++ (cs.take k).flatMap encIns) (hk : k < cs.length) : acc ++ encIns cs[k] = pre ++ (cs.take (k + 1)).flatMap encIns := by
  rw [h, List.take_succ_eq_append_getElem hk, List.flatMap_append, List.flatMap_cons, List.flatMap_nil, List.append_nil]
  simp only [List.append_assoc]
theorem text_size {es : List S45} {ts : List ByteArray} {cs : List S43} (h : MayOk es ts cs) (k : Nat) (hk : k < ts.length) : ts[k].size ≤ 4096 := by
  have h1 := List.any_eq_false.1 h.2.2.2.2.1 ts[k] (List.getElem_mem hk)
  have h2 : (ts[k].size : Int) ≤ 4096 := by simpa [tooLong] using h1
  omega
theorem at_43b {w wr : World} {A0 : Option Addr} {c0 : Nat} {A1 : Option Addr} {c1 : Nat} {A2 : Option Addr} {c2 : Nat} {es : List S45} {ts : List ByteArray} {cs : List S43} (h : ImgAt w A0 c0 A1 c1 A2 c2 es ts cs) (hb : Below w.heap.size w wr) (k : Nat) (hk : k < cs.length) :
    ∃ ad A3 c3 A4 c4 A5 c5, A2 = some ad ∧ wr.cell? (ad.add (k * 6)) = some (.int .i64 cs[k].f0) ∧ wr.cell? ⟨(ad.add (k * 6)).block, (ad.add (k * 6)).off + 1, none⟩ = some (.int .i64 cs[k].f1) ∧ wr.cell? ⟨(ad.add (k * 6)).block, (ad.add (k * 6)).off + 2, none⟩ = some (.int .i64 cs[k].f2) ∧
      wr.cell? ⟨(ad.add (k * 6)).block, (ad.add (k * 6)).off + 3, none⟩ = some (.slice A3 cs[k].f3.length c3) ∧ wr.cell? ⟨(ad.add (k * 6)).block, (ad.add (k * 6)).off + 4, none⟩ = some (.slice A4 cs[k].f4.length c4) ∧ wr.cell? ⟨(ad.add (k * 6)).block, (ad.add (k * 6)).off + 5, none⟩ = some (.slice A5 cs[k].f5.length c5) ∧
      Aside0 (cs[k].f3.length ≤ c3 ∧ Kd.C (Kd.int .i64) w A3 cs[k].f3.length cs[k].f3 ∧ cs[k].f4.length ≤ c4 ∧ Kd.C (Kd.int .i64) w A4 cs[k].f4.length cs[k].f4 ∧ cs[k].f5.length ≤ c5 ∧ Kd.C (Kd.int .i64) w A5 cs[k].f5.length cs[k].f5) := by
  obtain ⟨ad, A3, c3, A4, c4, A5, c5, e, q0, q1, q2, q3, q4, q5, r⟩ := at_43 h.r2 k hk
  exact ⟨ad, A3, c3, A4, c4, A5, c5, e, pw_cell_below hb q0, pw_cell_below hb q1, pw_cell_below hb q2, pw_cell_below hb q3, pw_cell_below hb q4, pw_cell_below hb q5, ⟨r⟩⟩
theorem place_step {l : List Int} {acc pre : List Int} {k : Nat} (h : acc = pre ++ (l.take k).flatMap NB) (hk : k < l.length) : acc ++ NB l[k] = pre ++ (l.take (k + 1)).flatMap NB := by
  rw [h, List.take_succ_eq_append_getElem hk, List.flatMap_append, List.flatMap_cons, List.flatMap_nil, List.append_nil]
  simp only [List.append_assoc]
theorem place_end {l : List Int} {acc pre : List Int} {k : Nat} (h : acc = pre ++ (l.take k).flatMap NB) (hk : ¬ k < l.length) : acc = pre ++ l.flatMap NB := by
  rw [h, List.take_of_length_le (by omega)]
theorem encList_length (l : List Int) : (encList l).length = 8 + 8 * l.length := by
  have h : ∀ l : List Int, (l.flatMap NB).length = 8 * l.length := by
    intro l
    induction l with
    | nil => rfl
    | cons x l ih => rw [List.flatMap_cons, List.length_append, NB_length, ih, List.length_cons]; omega
  rw [encList, List.length_append, NB_length, h]
theorem enc_kind0 {x : S43} (hf : fieldsOf x.f0 = 0) : encIns x = NB x.f0 ++ x.f5.flatMap NB := by
  unfold encIns
  rw [hf]
  simp
theorem enc_kind1 {x : S43} (hf : fieldsOf x.f0 = 1) : encIns x = NB x.f0 ++ NB x.f1 ++ x.f5.flatMap NB := by
  unfold encIns
  rw [hf]
  simp
theorem enc_kind3 {x : S43} (hf : fieldsOf x.f0 = 3) : encIns x = NB x.f0 ++ NB x.f1 ++ NB x.f2 ++ x.f5.flatMap NB := by
  unfold encIns
  rw [hf]
  simp
theorem enc_kind8 {x : S43} (hf : fieldsOf x.f0 = 8) : encIns x = NB x.f0 ++ x.f5.flatMap NB := by
  unfold encIns
  rw [hf]
  simp
theorem enc_kind9 {x : S43} (hf : fieldsOf x.f0 = 9) : encIns x = NB x.f0 ++ NB x.f1 ++ x.f5.flatMap NB := by
  unfold encIns
  rw [hf]
  simp
theorem enc_kind17 {x : S43} (hf : fieldsOf x.f0 = 17) : encIns x = NB x.f0 ++ NB x.f1 ++ NB x.f5.length ++ x.f5.flatMap NB := by
  unfold encIns
  rw [hf]
  simp
theorem enc_kind20 {x : S43} (hf : fieldsOf x.f0 = 20) : encIns x = NB x.f0 ++ encList x.f3 ++ encList x.f4 ++ NB x.f5.length ++ x.f5.flatMap NB := by
  unfold encIns
  rw [hf]
  simp
set_option maxRecDepth 100000 in
set_option maxHeartbeats 4000000 in
theorem encode_go (A0 : Option Addr) (c0 : Nat) (A1 : Option Addr) (c1 : Nat) (A2 : Option Addr) (c2 : Nat) (es : List S45) (ts : List ByteArray) (cs : List S43) (w : World) (hI : ImgAt w A0 c0 A1 c1 A2 c2 es ts cs) (hz : Small cs) (hm : MayOk es ts cs) :
    Calls Try.prog 13 #[imgV A0 c0 A1 c1 A2 c2 es ts cs] w fun e w' => EncGives es ts cs w e w' := by
  have HI := Aside0.mk hI
  have HZ := Aside0.mk hz
  have HM := Aside0.mk hm
  have HSZ := Aside0.mk (show Sized cs from fun c hc => by have := hz c hc; omega)
  clear hI hz hm
  go_enter Try.func13, Try.ntmps13
  go_wp2_with (first
    | (go_at_call 11; refine (may_calls A0 c0 A1 c1 A2 c2 es ts cs _ (HI.out.below (below_alloc (Below.refl _ _) _)) HSZ.out).mono ?_; rintro e w1 ⟨hs, hb⟩; obtain rfl := hs.is (b := true) ⟨fun _ => HM.out, fun _ => rfl⟩; have HB := Aside0.mk hb; have hc := fun j => blk_cell (blk_below (blk_below (blk_new w (.cells #[Value.slice A0 es.length c0, .slice A1 ts.length c1, .slice A2 cs.length c2] 26)) hb) (grWorld_below w1)) j; have hf := fun j => blk_frozen (blk_below (blk_below (blk_new w (.cells #[Value.slice A0 es.length c0, .slice A1 ts.length c1, .slice A2 cs.length c2] 26)) hb) (grWorld_below w1)) j; clear hs hb)
    | (go_at_call 25; refine (numbers_first _ w1.heap.size (grWorld w1).heap.size (2, 3) (blk_alloc (grWorld_new w1) _) es.length ((blk_cell (blk_new (grWorld w1) (.cells #[.int .i64 es.length] 2)) 0).trans rfl)).mono ?_; rintro e w2 ⟨v2, rfl, ho, hb2⟩; have HE0 := Aside0.mk (EN.start HB.out hb2 ho); clear ho hb2 hc hf HB; obtain ⟨hc, hf⟩ := HE0.out.cells _ List.mem_cons_self))
  go_loopw [4, 27] (fun v i wr => ∃ (k : Nat) (acc : List Int), k ≤ es.length ∧ i = .int .i64 k ∧ Aside0 (acc = ([71, 82] ++ NB es.length) ++ (es.take k).flatMap encExn) ∧ Aside0 (acc.length ≤ 10 + 5000 * k) ∧ Aside0 (EN w wr [(w.heap.size, #[.slice A0 es.length c0, .slice A1 ts.length c1, .slice A2 cs.length c2], 26)] v acc))
    (fun _ i _ => es.length - (intOf i).toNat)
  case atStart => exact ⟨0, _, Nat.zero_le _, rfl, ⟨by simp⟩, ⟨by simp [NB]⟩, HE0⟩
  case round =>
    clear HE0 hc hf
    obtain ⟨k, acc, hk, rfl, HA, HL, HE⟩ := hrel
    have m200 := HM.out.1.2.1
    by_cases hlt : k < es.length
    · obtain ⟨ad, rfl, hc0, hc1⟩ := at_45 (HI.out.below HE.out.bel).r0 k hlt
      have HX := Aside0.mk (exn_step HA.out hlt)
      have HSZ2 := Aside0.mk (exn_size HM.out.1 k hlt)
      generalize es[k] = x at *
      have HE1 := Aside0.mk ((HE.out.push #[.string x.f0, .bool x.f1] 45 (by decide)).drew)
      obtain ⟨hb0, hb1⟩ := HE1.out.cells _ List.mem_cons_self
      go_wp2
      go_region_law (first
        | (refine goes_ (f := 26) Try.func26 (by kernel_rfl) rfl #[u4, .string x.f0] (by rfl) rfl rfl (by simp [Act.eval, Act.put]) ?_; refine (enc_text HE1.out x.f0 (by have := HL.out; have := HSZ2.out; omega)).mono ?_; rintro e w5 ⟨v5, rfl, hen⟩; refine ⟨_, rfl, ?_⟩; have HE2 := Aside0.mk hen; clear hen HE1 hb0 hb1; obtain ⟨hb0, hb1⟩ := HE2.out.cells _ List.mem_cons_self)
        | (refine goes_ (f := 27) Try.func27 (by kernel_rfl) rfl #[.bool x.f1] (by rfl) rfl rfl (by simp [Act.eval, Act.put]) ?_; refine (code_flag.calls x.f1 (if x.f1 then 1 else 0) _ (by cases x.f1 <;> rfl)).mono ?_; rintro e w6 ⟨rfl, n6, rfl⟩; refine ⟨_, rfl, ?_⟩)
        | (refine goes_ (f := 25) Try.func25 (by kernel_rfl) rfl #[v5, .slice (some ⟨w5.heap.size, 0, none⟩) 1 1] (by rfl) rfl rfl (by simp [Act.eval, Act.put]) ?_; refine (enc_num (HE2.out.drewN n6) (if x.f1 then 1 else 0) (by rw [List.length_append, encText_length]; have := HL.out; have := HSZ2.out; omega)).mono ?_; rintro e w7 ⟨v7, rfl, hen⟩; refine ⟨_, rfl, ?_⟩; have HE3 := Aside0.mk hen.pop; clear hen HE2 hb0 hb1))
      all_goals
        go_wp2
        go_roundw
        case rel => exact ⟨k + 1, _, by omega, by go_num, HX, ⟨by rw [List.length_append, List.length_append, encText_length, NB_length]; have := HL.out; have := HSZ2.out; omega⟩, HE3⟩
        case measure => simp [intOf]; omega
    · have HA2 := Aside0.mk (exn_end HA.out hlt)
      clear HA
      obtain ⟨hc, hf⟩ := HE.out.cells _ List.mem_cons_self
      go_wp2_with (go_at_call 25; refine (enc_num HE.out ts.length (by have := HL.out; omega)).mono ?_; rintro e w3 ⟨v3, rfl, hen⟩; have HE0 := Aside0.mk hen; have HA3 := Aside0.mk (congrArg (· ++ NB (ts.length : Int)) HA2.out); have HL3 := Aside0.mk (show (acc ++ NB (ts.length : Int)).length ≤ 1100000 by rw [List.length_append, NB_length]; have := HL.out; omega); clear hen hc hf HE HA2 HL; obtain ⟨hc, hf⟩ := HE0.out.cells _ List.mem_cons_self)
      go_loopw [4, 50] (fun v i wr => ∃ (j : Nat) (acc : List Int), j ≤ ts.length ∧ i = .int .i64 j ∧ Aside0 (acc = ([71, 82] ++ NB es.length ++ es.flatMap encExn ++ NB ts.length) ++ (ts.take j).flatMap encText) ∧ Aside0 (acc.length ≤ 1100000 + 5000 * j) ∧ Aside0 (EN w wr [(w.heap.size, #[.slice A0 es.length c0, .slice A1 ts.length c1, .slice A2 cs.length c2], 26)] v acc))
        (fun _ i _ => ts.length - (intOf i).toNat)
      case atStart => exact ⟨0, _, Nat.zero_le _, rfl, ⟨by rw [HA3.out]; simp⟩, HL3, HE0⟩
      case round =>
        clear HE0 hc hf HA3 HL3
        obtain ⟨j, acc, hj, rfl, HA, HL, HE⟩ := hrel
        have m1000 := HM.out.2.1
        by_cases hlt2 : j < ts.length
        · obtain ⟨ad, rfl, hc0⟩ := at_string_nat (HI.out.below HE.out.bel).r1 j hlt2
          have HX := Aside0.mk (text_step HA.out hlt2)
          have HSZ2 := Aside0.mk (text_size HM.out j hlt2)
          generalize ts[j] = x at *
          go_wp2_with (go_at_call 26; refine (enc_text HE.out x (by have := HL.out; have := HSZ2.out; omega)).mono ?_; rintro e w5 ⟨v5, rfl, hen⟩; have HE2 := Aside0.mk hen; clear hen HE)
          go_roundw
          case rel => exact ⟨j + 1, _, by omega, by go_num, HX, ⟨by rw [List.length_append, encText_length]; have := HL.out; have := HSZ2.out; omega⟩, HE2⟩
          case measure => simp [intOf]; omega
        · have HA2 := Aside0.mk (text_end HA.out hlt2)
          clear HA
          obtain ⟨hc, hf⟩ := HE.out.cells _ List.mem_cons_self
          go_wp2_with (go_at_call 25; refine (enc_num HE.out cs.length (by have := HL.out; omega)).mono ?_; rintro e w5 ⟨v5, rfl, hen⟩; have HE0 := Aside0.mk hen; have HA3 := Aside0.mk (congrArg (· ++ NB (cs.length : Int)) HA2.out); have HL3 := Aside0.mk (show (acc ++ NB (cs.length : Int)).length ≤ 6200000 by rw [List.length_append, NB_length]; have := HL.out; omega); clear hen hc hf HE HA2 HL; obtain ⟨hc, hf⟩ := HE0.out.cells _ List.mem_cons_self)
          go_loopw [4, 67] (fun v i wr => ∃ (t : Nat) (acc : List Int), t ≤ cs.length ∧ i = .int .i64 t ∧ Aside0 (acc = ([71, 82] ++ NB es.length ++ es.flatMap encExn ++ NB ts.length ++ ts.flatMap encText ++ NB cs.length) ++ (cs.take t).flatMap encIns) ∧ Aside0 (acc.length ≤ 6200000 + 1700000 * t) ∧ Aside0 (EN w wr [(w.heap.size, #[.slice A0 es.length c0, .slice A1 ts.length c1, .slice A2 cs.length c2], 26)] v acc))
            (fun _ i _ => cs.length - (intOf i).toNat)
          case atStart => exact ⟨0, _, Nat.zero_le _, rfl, ⟨by rw [HA3.out]; simp⟩, HL3, HE0⟩
          case round =>
            clear HE0 hc hf HA3 HL3
            obtain ⟨t, acc, ht, rfl, HA, HL, HE⟩ := hrel
            have m8000 := HM.out.2.2.2.1
            by_cases hlt3 : t < cs.length
            · obtain ⟨ad, A3, n3, A4, n4, A5, n5, rfl, q0, q1, q2, q3, q4, q5, HR⟩ := at_43b HI.out HE.out.bel t hlt3
              have HX := Aside0.mk (ins_step HA.out hlt3)
              have HSM := Aside0.mk (HZ.out _ (List.getElem_mem hlt3))
              have HK := Aside0.mk (HM.out.2.2.2.2.2 t hlt3).1
              clear HA
              generalize cs[t] = x at *
              have HEB := Aside0.mk (HE.out.push #[.int .i64 x.f0, .int .i64 x.f1, .int .i64 x.f2, .slice A3 x.f3.length n3, .slice A4 x.f4.length n4, .slice A5 x.f5.length n5] 43 (by decide))
              clear HE
              obtain ⟨s3, s4, s5⟩ := HSM.out
              clear HSM
              have hl0 := HL.out
              clear HL
              rcases fieldsOf_cases x.f0 with hf | hf | hf | hf | hf | hf | hf | hf
              · exact absurd HK.out (by rw [hf]; decide)
              · have HF := Aside0.mk hf
                have HI2 := Aside0.mk (enc_kind0 (x := x) hf)
                clear hf
                obtain ⟨hb0, hb1⟩ := HEB.out.cells _ List.mem_cons_self
                have hbt1 : bits BinOp.and IntKind.i64 0 1 = 0 := by decide
                have hbt2 : bits BinOp.and IntKind.i64 0 2 = 0 := by decide
                have hbt4 : bits BinOp.and IntKind.i64 0 4 = 0 := by decide
                have hbt8 : bits BinOp.and IntKind.i64 0 8 = 0 := by decide
                have hbt16 : bits BinOp.and IntKind.i64 0 16 = 0 := by decide
                go_wp2_with (first
                  | (go_at_call 28; refine (fields_is _ 0 HF.out _).mono ?_; rintro e w9 ⟨rfl, n1, hn1⟩; have HE1 := Aside0.mk (EN.at_ HEB.out n1 hn1); clear HEB hb0 hb1 hn1; obtain ⟨hb0, hb1⟩ := HE1.out.cells _ List.mem_cons_self)
                  | (go_at_call 25; refine (enc_num HE1.out x.f0 (by (try simp only [List.length_append, NB_length, encList_length]); omega)).mono ?_; rintro e w11 ⟨v11, rfl, hen⟩; have HE11 := Aside0.mk hen; clear hen HE1 hb0 hb1; obtain ⟨hb0, hb1⟩ := HE11.out.cells _ List.mem_cons_self))
                obtain ⟨pre, HP⟩ : ∃ pre, Aside0 ((acc ++ NB x.f0) = pre) := ⟨_, ⟨rfl⟩⟩
                have HPL : Aside0 (pre.length ≤ acc.length + 1100000) := ⟨by rw [← HP.out]; simp only [List.length_append, NB_length, encList_length]; omega⟩
                rw [HP.out] at HE11
                go_loopw [4, 117] (fun v i ws => ∃ (p : Nat) (acc2 : List Int), p ≤ x.f5.length ∧ i = .int .i64 p ∧ Aside0 (acc2 = pre ++ (x.f5.take p).flatMap NB) ∧ Aside0 (acc2.length ≤ acc.length + 1100000 + 8 * p) ∧ Aside0 (EN w ws [(wr.heap.size, #[.int .i64 x.f0, .int .i64 x.f1, .int .i64 x.f2, .slice A3 x.f3.length n3, .slice A4 x.f4.length n4, .slice A5 x.f5.length n5], 43), (w.heap.size, #[.slice A0 es.length c0, .slice A1 ts.length c1, .slice (some ad) cs.length c2], 26)] v acc2))
                  (fun _ i _ => x.f5.length - (intOf i).toNat)
                case atStart => exact ⟨0, _, Nat.zero_le _, rfl, ⟨by simp⟩, HPL, HE11⟩
                case round =>
                  clear HE11 hb0 hb1
                  obtain ⟨p, acc2, hp, rfl, HA5, HL5, HE5⟩ := hrel
                  by_cases hlt4 : p < x.f5.length
                  · obtain ⟨ad5, rfl, hc5⟩ := at_int_nat (Kd.C_below HR.out.2.2.2.2.2 HE5.out.bel) p hlt4
                    have HX5 := Aside0.mk (place_step HA5.out hlt4)
                    obtain ⟨y, hy⟩ : ∃ y, x.f5[p] = y := ⟨_, rfl⟩
                    rw [hy] at hc5 HX5
                    clear hy
                    go_wp2_with (go_at_call 25; refine (enc_num HE5.out y (by have := HL5.out; omega)).mono ?_; rintro e w8 ⟨v8, rfl, hen⟩; have HE6 := Aside0.mk hen; clear hen HE5)
                    go_roundw
                    case rel => exact ⟨p + 1, _, by omega, by go_num, HX5, ⟨by rw [List.length_append, NB_length]; have := HL5.out; omega⟩, HE6⟩
                    case measure => simp [intOf]; omega
                  · have HE6 := HE5
                    have HA6 := Aside0.mk (place_end HA5.out hlt4)
                    have HL6 := HL5
                    clear HE5 HA5 HL5
                    go_wp2
                    go_roundw
                    case rel => exact ⟨t + 1, _, by omega, by go_num, ⟨by rw [HA6.out, ← HP.out, ← HX.out, HI2.out]; simp only [List.append_assoc]⟩, ⟨by have := HL6.out; omega⟩, ⟨HE6.out.pop⟩⟩
                    case measure => simp [intOf]; omega
              · have HF := Aside0.mk hf
                have HI2 := Aside0.mk (enc_kind1 (x := x) hf)
                clear hf
                obtain ⟨hb0, hb1⟩ := HEB.out.cells _ List.mem_cons_self
                have hbt1 : bits BinOp.and IntKind.i64 1 1 = 1 := by decide
                have hbt2 : bits BinOp.and IntKind.i64 1 2 = 0 := by decide
                have hbt4 : bits BinOp.and IntKind.i64 1 4 = 0 := by decide
                have hbt8 : bits BinOp.and IntKind.i64 1 8 = 0 := by decide
                have hbt16 : bits BinOp.and IntKind.i64 1 16 = 0 := by decide
                go_wp2_with (first
                  | (go_at_call 28; refine (fields_is _ 1 HF.out _).mono ?_; rintro e w9 ⟨rfl, n1, hn1⟩; have HE1 := Aside0.mk (EN.at_ HEB.out n1 hn1); clear HEB hb0 hb1 hn1; obtain ⟨hb0, hb1⟩ := HE1.out.cells _ List.mem_cons_self)
                  | (go_at_call 25; refine (enc_num HE1.out x.f0 (by (try simp only [List.length_append, NB_length, encList_length]); omega)).mono ?_; rintro e w11 ⟨v11, rfl, hen⟩; have HE11 := Aside0.mk hen; clear hen HE1 hb0 hb1; obtain ⟨hb0, hb1⟩ := HE11.out.cells _ List.mem_cons_self)
                  | (go_at_call 25; refine (enc_num HE11.out x.f1 (by (try simp only [List.length_append, NB_length, encList_length]); omega)).mono ?_; rintro e w12 ⟨v12, rfl, hen⟩; have HE12 := Aside0.mk hen; clear hen HE11 hb0 hb1; obtain ⟨hb0, hb1⟩ := HE12.out.cells _ List.mem_cons_self))
                obtain ⟨pre, HP⟩ : ∃ pre, Aside0 ((acc ++ NB x.f0 ++ NB x.f1) = pre) := ⟨_, ⟨rfl⟩⟩
                have HPL : Aside0 (pre.length ≤ acc.length + 1100000) := ⟨by rw [← HP.out]; simp only [List.length_append, NB_length, encList_length]; omega⟩
                rw [HP.out] at HE12
                go_loopw [4, 117] (fun v i ws => ∃ (p : Nat) (acc2 : List Int), p ≤ x.f5.length ∧ i = .int .i64 p ∧ Aside0 (acc2 = pre ++ (x.f5.take p).flatMap NB) ∧ Aside0 (acc2.length ≤ acc.length + 1100000 + 8 * p) ∧ Aside0 (EN w ws [(wr.heap.size, #[.int .i64 x.f0, .int .i64 x.f1, .int .i64 x.f2, .slice A3 x.f3.length n3, .slice A4 x.f4.length n4, .slice A5 x.f5.length n5], 43), (w.heap.size, #[.slice A0 es.length c0, .slice A1 ts.length c1, .slice (some ad) cs.length c2], 26)] v acc2))
                  (fun _ i _ => x.f5.length - (intOf i).toNat)
                case atStart => exact ⟨0, _, Nat.zero_le _, rfl, ⟨by simp⟩, HPL, HE12⟩
                case round =>
                  clear HE12 hb0 hb1
                  obtain ⟨p, acc2, hp, rfl, HA5, HL5, HE5⟩ := hrel
                  by_cases hlt4 : p < x.f5.length
                  · obtain ⟨ad5, rfl, hc5⟩ := at_int_nat (Kd.C_below HR.out.2.2.2.2.2 HE5.out.bel) p hlt4
                    have HX5 := Aside0.mk (place_step HA5.out hlt4)
                    obtain ⟨y, hy⟩ : ∃ y, x.f5[p] = y := ⟨_, rfl⟩
                    rw [hy] at hc5 HX5
                    clear hy
                    go_wp2_with (go_at_call 25; refine (enc_num HE5.out y (by have := HL5.out; omega)).mono ?_; rintro e w8 ⟨v8, rfl, hen⟩; have HE6 := Aside0.mk hen; clear hen HE5)
                    go_roundw
                    case rel => exact ⟨p + 1, _, by omega, by go_num, HX5, ⟨by rw [List.length_append, NB_length]; have := HL5.out; omega⟩, HE6⟩
                    case measure => simp [intOf]; omega
                  · have HE6 := HE5
                    have HA6 := Aside0.mk (place_end HA5.out hlt4)
                    have HL6 := HL5
                    clear HE5 HA5 HL5
                    go_wp2
                    go_roundw
                    case rel => exact ⟨t + 1, _, by omega, by go_num, ⟨by rw [HA6.out, ← HP.out, ← HX.out, HI2.out]; simp only [List.append_assoc]⟩, ⟨by have := HL6.out; omega⟩, ⟨HE6.out.pop⟩⟩
                    case measure => simp [intOf]; omega
              · have HF := Aside0.mk hf
                have HI2 := Aside0.mk (enc_kind3 (x := x) hf)
                clear hf
                obtain ⟨hb0, hb1⟩ := HEB.out.cells _ List.mem_cons_self
                have hbt1 : bits BinOp.and IntKind.i64 3 1 = 1 := by decide
                have hbt2 : bits BinOp.and IntKind.i64 3 2 = 2 := by decide
                have hbt4 : bits BinOp.and IntKind.i64 3 4 = 0 := by decide
                have hbt8 : bits BinOp.and IntKind.i64 3 8 = 0 := by decide
                have hbt16 : bits BinOp.and IntKind.i64 3 16 = 0 := by decide
                go_wp2_with (first
                  | (go_at_call 28; refine (fields_is _ 3 HF.out _).mono ?_; rintro e w9 ⟨rfl, n1, hn1⟩; have HE1 := Aside0.mk (EN.at_ HEB.out n1 hn1); clear HEB hb0 hb1 hn1; obtain ⟨hb0, hb1⟩ := HE1.out.cells _ List.mem_cons_self)
                  | (go_at_call 25; refine (enc_num HE1.out x.f0 (by (try simp only [List.length_append, NB_length, encList_length]); omega)).mono ?_; rintro e w11 ⟨v11, rfl, hen⟩; have HE11 := Aside0.mk hen; clear hen HE1 hb0 hb1; obtain ⟨hb0, hb1⟩ := HE11.out.cells _ List.mem_cons_self)
                  | (go_at_call 25; refine (enc_num HE11.out x.f1 (by (try simp only [List.length_append, NB_length, encList_length]); omega)).mono ?_; rintro e w12 ⟨v12, rfl, hen⟩; have HE12 := Aside0.mk hen; clear hen HE11 hb0 hb1; obtain ⟨hb0, hb1⟩ := HE12.out.cells _ List.mem_cons_self)
                  | (go_at_call 25; refine (enc_num HE12.out x.f2 (by (try simp only [List.length_append, NB_length, encList_length]); omega)).mono ?_; rintro e w13 ⟨v13, rfl, hen⟩; have HE13 := Aside0.mk hen; clear hen HE12 hb0 hb1; obtain ⟨hb0, hb1⟩ := HE13.out.cells _ List.mem_cons_self))
                obtain ⟨pre, HP⟩ : ∃ pre, Aside0 ((acc ++ NB x.f0 ++ NB x.f1 ++ NB x.f2) = pre) := ⟨_, ⟨rfl⟩⟩
                have HPL : Aside0 (pre.length ≤ acc.length + 1100000) := ⟨by rw [← HP.out]; simp only [List.length_append, NB_length, encList_length]; omega⟩
                rw [HP.out] at HE13
                go_loopw [4, 117] (fun v i ws => ∃ (p : Nat) (acc2 : List Int), p ≤ x.f5.length ∧ i = .int .i64 p ∧ Aside0 (acc2 = pre ++ (x.f5.take p).flatMap NB) ∧ Aside0 (acc2.length ≤ acc.length + 1100000 + 8 * p) ∧ Aside0 (EN w ws [(wr.heap.size, #[.int .i64 x.f0, .int .i64 x.f1, .int .i64 x.f2, .slice A3 x.f3.length n3, .slice A4 x.f4.length n4, .slice A5 x.f5.length n5], 43), (w.heap.size, #[.slice A0 es.length c0, .slice A1 ts.length c1, .slice (some ad) cs.length c2], 26)] v acc2))
                  (fun _ i _ => x.f5.length - (intOf i).toNat)
                case atStart => exact ⟨0, _, Nat.zero_le _, rfl, ⟨by simp⟩, HPL, HE13⟩
                case round =>
                  clear HE13 hb0 hb1
                  obtain ⟨p, acc2, hp, rfl, HA5, HL5, HE5⟩ := hrel
                  by_cases hlt4 : p < x.f5.length
                  · obtain ⟨ad5, rfl, hc5⟩ := at_int_nat (Kd.C_below HR.out.2.2.2.2.2 HE5.out.bel) p hlt4
                    have HX5 := Aside0.mk (place_step HA5.out hlt4)
                    obtain ⟨y, hy⟩ : ∃ y, x.f5[p] = y := ⟨_, rfl⟩
                    rw [hy] at hc5 HX5
                    clear hy
                    go_wp2_with (go_at_call 25; refine (enc_num HE5.out y (by have := HL5.out; omega)).mono ?_; rintro e w8 ⟨v8, rfl, hen⟩; have HE6 := Aside0.mk hen; clear hen HE5)
                    go_roundw
                    case rel => exact ⟨p + 1, _, by omega, by go_num, HX5, ⟨by rw [List.length_append, NB_length]; have := HL5.out; omega⟩, HE6⟩
                    case measure => simp [intOf]; omega
                  · have HE6 := HE5
                    have HA6 := Aside0.mk (place_end HA5.out hlt4)
                    have HL6 := HL5
                    clear HE5 HA5 HL5
                    go_wp2
                    go_roundw
                    case rel => exact ⟨t + 1, _, by omega, by go_num, ⟨by rw [HA6.out, ← HP.out, ← HX.out, HI2.out]; simp only [List.append_assoc]⟩, ⟨by have := HL6.out; omega⟩, ⟨HE6.out.pop⟩⟩
                    case measure => simp [intOf]; omega
              · have HF := Aside0.mk hf
                have HI2 := Aside0.mk (enc_kind8 (x := x) hf)
                clear hf
                obtain ⟨hb0, hb1⟩ := HEB.out.cells _ List.mem_cons_self
                have hbt1 : bits BinOp.and IntKind.i64 8 1 = 0 := by decide
                have hbt2 : bits BinOp.and IntKind.i64 8 2 = 0 := by decide
                have hbt4 : bits BinOp.and IntKind.i64 8 4 = 0 := by decide
                have hbt8 : bits BinOp.and IntKind.i64 8 8 = 8 := by decide
                have hbt16 : bits BinOp.and IntKind.i64 8 16 = 0 := by decide
                go_wp2_with (first
                  | (go_at_call 28; refine (fields_is _ 8 HF.out _).mono ?_; rintro e w9 ⟨rfl, n1, hn1⟩; have HE1 := Aside0.mk (EN.at_ HEB.out n1 hn1); clear HEB hb0 hb1 hn1; obtain ⟨hb0, hb1⟩ := HE1.out.cells _ List.mem_cons_self)
                  | (go_at_call 25; refine (enc_num HE1.out x.f0 (by (try simp only [List.length_append, NB_length, encList_length]); omega)).mono ?_; rintro e w11 ⟨v11, rfl, hen⟩; have HE11 := Aside0.mk hen; clear hen HE1 hb0 hb1; obtain ⟨hb0, hb1⟩ := HE11.out.cells _ List.mem_cons_self))
                obtain ⟨pre, HP⟩ : ∃ pre, Aside0 ((acc ++ NB x.f0) = pre) := ⟨_, ⟨rfl⟩⟩
                have HPL : Aside0 (pre.length ≤ acc.length + 1100000) := ⟨by rw [← HP.out]; simp only [List.length_append, NB_length, encList_length]; omega⟩
                rw [HP.out] at HE11
                go_loopw [4, 117] (fun v i ws => ∃ (p : Nat) (acc2 : List Int), p ≤ x.f5.length ∧ i = .int .i64 p ∧ Aside0 (acc2 = pre ++ (x.f5.take p).flatMap NB) ∧ Aside0 (acc2.length ≤ acc.length + 1100000 + 8 * p) ∧ Aside0 (EN w ws [(wr.heap.size, #[.int .i64 x.f0, .int .i64 x.f1, .int .i64 x.f2, .slice A3 x.f3.length n3, .slice A4 x.f4.length n4, .slice A5 x.f5.length n5], 43), (w.heap.size, #[.slice A0 es.length c0, .slice A1 ts.length c1, .slice (some ad) cs.length c2], 26)] v acc2))
                  (fun _ i _ => x.f5.length - (intOf i).toNat)
                case atStart => exact ⟨0, _, Nat.zero_le _, rfl, ⟨by simp⟩, HPL, HE11⟩
                case round =>
                  clear HE11 hb0 hb1
                  obtain ⟨p, acc2, hp, rfl, HA5, HL5, HE5⟩ := hrel
                  by_cases hlt4 : p < x.f5.length
                  · obtain ⟨ad5, rfl, hc5⟩ := at_int_nat (Kd.C_below HR.out.2.2.2.2.2 HE5.out.bel) p hlt4
                    have HX5 := Aside0.mk (place_step HA5.out hlt4)
                    obtain ⟨y, hy⟩ : ∃ y, x.f5[p] = y := ⟨_, rfl⟩
                    rw [hy] at hc5 HX5
                    clear hy
                    go_wp2_with (go_at_call 25; refine (enc_num HE5.out y (by have := HL5.out; omega)).mono ?_; rintro e w8 ⟨v8, rfl, hen⟩; have HE6 := Aside0.mk hen; clear hen HE5)
                    go_roundw
                    case rel => exact ⟨p + 1, _, by omega, by go_num, HX5, ⟨by rw [List.length_append, NB_length]; have := HL5.out; omega⟩, HE6⟩
                    case measure => simp [intOf]; omega
                  · have HE6 := HE5
                    have HA6 := Aside0.mk (place_end HA5.out hlt4)
                    have HL6 := HL5
                    clear HE5 HA5 HL5
                    go_wp2
                    go_roundw
                    case rel => exact ⟨t + 1, _, by omega, by go_num, ⟨by rw [HA6.out, ← HP.out, ← HX.out, HI2.out]; simp only [List.append_assoc]⟩, ⟨by have := HL6.out; omega⟩, ⟨HE6.out.pop⟩⟩
                    case measure => simp [intOf]; omega
              · have HF := Aside0.mk hf
                have HI2 := Aside0.mk (enc_kind9 (x := x) hf)
                clear hf
                obtain ⟨hb0, hb1⟩ := HEB.out.cells _ List.mem_cons_self
                have hbt1 : bits BinOp.and IntKind.i64 9 1 = 1 := by decide
                have hbt2 : bits BinOp.and IntKind.i64 9 2 = 0 := by decide
                have hbt4 : bits BinOp.and IntKind.i64 9 4 = 0 := by decide
                have hbt8 : bits BinOp.and IntKind.i64 9 8 = 8 := by decide
                have hbt16 : bits BinOp.and IntKind.i64 9 16 = 0 := by decide
                go_wp2_with (first
                  | (go_at_call 28; refine (fields_is _ 9 HF.out _).mono ?_; rintro e w9 ⟨rfl, n1, hn1⟩; have HE1 := Aside0.mk (EN.at_ HEB.out n1 hn1); clear HEB hb0 hb1 hn1; obtain ⟨hb0, hb1⟩ := HE1.out.cells _ List.mem_cons_self)
                  | (go_at_call 25; refine (enc_num HE1.out x.f0 (by (try simp only [List.length_append, NB_length, encList_length]); omega)).mono ?_; rintro e w11 ⟨v11, rfl, hen⟩; have HE11 := Aside0.mk hen; clear hen HE1 hb0 hb1; obtain ⟨hb0, hb1⟩ := HE11.out.cells _ List.mem_cons_self)
                  | (go_at_call 25; refine (enc_num HE11.out x.f1 (by (try simp only [List.length_append, NB_length, encList_length]); omega)).mono ?_; rintro e w12 ⟨v12, rfl, hen⟩; have HE12 := Aside0.mk hen; clear hen HE11 hb0 hb1; obtain ⟨hb0, hb1⟩ := HE12.out.cells _ List.mem_cons_self))
                obtain ⟨pre, HP⟩ : ∃ pre, Aside0 ((acc ++ NB x.f0 ++ NB x.f1) = pre) := ⟨_, ⟨rfl⟩⟩
                have HPL : Aside0 (pre.length ≤ acc.length + 1100000) := ⟨by rw [← HP.out]; simp only [List.length_append, NB_length, encList_length]; omega⟩
                rw [HP.out] at HE12
                go_loopw [4, 117] (fun v i ws => ∃ (p : Nat) (acc2 : List Int), p ≤ x.f5.length ∧ i = .int .i64 p ∧ Aside0 (acc2 = pre ++ (x.f5.take p).flatMap NB) ∧ Aside0 (acc2.length ≤ acc.length + 1100000 + 8 * p) ∧ Aside0 (EN w ws [(wr.heap.size, #[.int .i64 x.f0, .int .i64 x.f1, .int .i64 x.f2, .slice A3 x.f3.length n3, .slice A4 x.f4.length n4, .slice A5 x.f5.length n5], 43), (w.heap.size, #[.slice A0 es.length c0, .slice A1 ts.length c1, .slice (some ad) cs.length c2], 26)] v acc2))
                  (fun _ i _ => x.f5.length - (intOf i).toNat)
                case atStart => exact ⟨0, _, Nat.zero_le _, rfl, ⟨by simp⟩, HPL, HE12⟩
                case round =>
                  clear HE12 hb0 hb1
                  obtain ⟨p, acc2, hp, rfl, HA5, HL5, HE5⟩ := hrel
                  by_cases hlt4 : p < x.f5.length
                  · obtain ⟨ad5, rfl, hc5⟩ := at_int_nat (Kd.C_below HR.out.2.2.2.2.2 HE5.out.bel) p hlt4
                    have HX5 := Aside0.mk (place_step HA5.out hlt4)
                    obtain ⟨y, hy⟩ : ∃ y, x.f5[p] = y := ⟨_, rfl⟩
                    rw [hy] at hc5 HX5
                    clear hy
                    go_wp2_with (go_at_call 25; refine (enc_num HE5.out y (by have := HL5.out; omega)).mono ?_; rintro e w8 ⟨v8, rfl, hen⟩; have HE6 := Aside0.mk hen; clear hen HE5)
                    go_roundw
                    case rel => exact ⟨p + 1, _, by omega, by go_num, HX5, ⟨by rw [List.length_append, NB_length]; have := HL5.out; omega⟩, HE6⟩
                    case measure => simp [intOf]; omega
                  · have HE6 := HE5
                    have HA6 := Aside0.mk (place_end HA5.out hlt4)
                    have HL6 := HL5
                    clear HE5 HA5 HL5
                    go_wp2
                    go_roundw
                    case rel => exact ⟨t + 1, _, by omega, by go_num, ⟨by rw [HA6.out, ← HP.out, ← HX.out, HI2.out]; simp only [List.append_assoc]⟩, ⟨by have := HL6.out; omega⟩, ⟨HE6.out.pop⟩⟩
                    case measure => simp [intOf]; omega
              · have HF := Aside0.mk hf
                have HI2 := Aside0.mk (enc_kind17 (x := x) hf)
                clear hf
                obtain ⟨hb0, hb1⟩ := HEB.out.cells _ List.mem_cons_self
                have hbt1 : bits BinOp.and IntKind.i64 17 1 = 1 := by decide
                have hbt2 : bits BinOp.and IntKind.i64 17 2 = 0 := by decide
                have hbt4 : bits BinOp.and IntKind.i64 17 4 = 0 := by decide
                have hbt8 : bits BinOp.and IntKind.i64 17 8 = 0 := by decide
                have hbt16 : bits BinOp.and IntKind.i64 17 16 = 16 := by decide
                go_wp2_with (first
                  | (go_at_call 28; refine (fields_is _ 17 HF.out _).mono ?_; rintro e w9 ⟨rfl, n1, hn1⟩; have HE1 := Aside0.mk (EN.at_ HEB.out n1 hn1); clear HEB hb0 hb1 hn1; obtain ⟨hb0, hb1⟩ := HE1.out.cells _ List.mem_cons_self)
                  | (go_at_call 25; refine (enc_num HE1.out x.f0 (by (try simp only [List.length_append, NB_length, encList_length]); omega)).mono ?_; rintro e w11 ⟨v11, rfl, hen⟩; have HE11 := Aside0.mk hen; clear hen HE1 hb0 hb1; obtain ⟨hb0, hb1⟩ := HE11.out.cells _ List.mem_cons_self)
                  | (go_at_call 25; refine (enc_num HE11.out x.f1 (by (try simp only [List.length_append, NB_length, encList_length]); omega)).mono ?_; rintro e w12 ⟨v12, rfl, hen⟩; have HE12 := Aside0.mk hen; clear hen HE11 hb0 hb1; obtain ⟨hb0, hb1⟩ := HE12.out.cells _ List.mem_cons_self)
                  | (go_at_call 25; refine (enc_num HE12.out x.f5.length (by (try simp only [List.length_append, NB_length, encList_length]); omega)).mono ?_; rintro e w16 ⟨v16, rfl, hen⟩; have HE16 := Aside0.mk hen; clear hen HE12 hb0 hb1; obtain ⟨hb0, hb1⟩ := HE16.out.cells _ List.mem_cons_self))
                obtain ⟨pre, HP⟩ : ∃ pre, Aside0 ((acc ++ NB x.f0 ++ NB x.f1 ++ NB x.f5.length) = pre) := ⟨_, ⟨rfl⟩⟩
                have HPL : Aside0 (pre.length ≤ acc.length + 1100000) := ⟨by rw [← HP.out]; simp only [List.length_append, NB_length, encList_length]; omega⟩
                rw [HP.out] at HE16
                go_loopw [4, 117] (fun v i ws => ∃ (p : Nat) (acc2 : List Int), p ≤ x.f5.length ∧ i = .int .i64 p ∧ Aside0 (acc2 = pre ++ (x.f5.take p).flatMap NB) ∧ Aside0 (acc2.length ≤ acc.length + 1100000 + 8 * p) ∧ Aside0 (EN w ws [(wr.heap.size, #[.int .i64 x.f0, .int .i64 x.f1, .int .i64 x.f2, .slice A3 x.f3.length n3, .slice A4 x.f4.length n4, .slice A5 x.f5.length n5], 43), (w.heap.size, #[.slice A0 es.length c0, .slice A1 ts.length c1, .slice (some ad) cs.length c2], 26)] v acc2))
                  (fun _ i _ => x.f5.length - (intOf i).toNat)
                case atStart => exact ⟨0, _, Nat.zero_le _, rfl, ⟨by simp⟩, HPL, HE16⟩
                case round =>
                  clear HE16 hb0 hb1
                  obtain ⟨p, acc2, hp, rfl, HA5, HL5, HE5⟩ := hrel
                  by_cases hlt4 : p < x.f5.length
                  · obtain ⟨ad5, rfl, hc5⟩ := at_int_nat (Kd.C_below HR.out.2.2.2.2.2 HE5.out.bel) p hlt4
                    have HX5 := Aside0.mk (place_step HA5.out hlt4)
                    obtain ⟨y, hy⟩ : ∃ y, x.f5[p] = y := ⟨_, rfl⟩
                    rw [hy] at hc5 HX5
                    clear hy
                    go_wp2_with (go_at_call 25; refine (enc_num HE5.out y (by have := HL5.out; omega)).mono ?_; rintro e w8 ⟨v8, rfl, hen⟩; have HE6 := Aside0.mk hen; clear hen HE5)
                    go_roundw
                    case rel => exact ⟨p + 1, _, by omega, by go_num, HX5, ⟨by rw [List.length_append, NB_length]; have := HL5.out; omega⟩, HE6⟩
                    case measure => simp [intOf]; omega
                  · have HE6 := HE5
                    have HA6 := Aside0.mk (place_end HA5.out hlt4)
                    have HL6 := HL5
                    clear HE5 HA5 HL5
                    go_wp2
                    go_roundw
                    case rel => exact ⟨t + 1, _, by omega, by go_num, ⟨by rw [HA6.out, ← HP.out, ← HX.out, HI2.out]; simp only [List.append_assoc]⟩, ⟨by have := HL6.out; omega⟩, ⟨HE6.out.pop⟩⟩
                    case measure => simp [intOf]; omega
              · have HF := Aside0.mk hf
                have HI2 := Aside0.mk (enc_kind20 (x := x) hf)
                clear hf
                obtain ⟨hb0, hb1⟩ := HEB.out.cells _ List.mem_cons_self
                have hbt1 : bits BinOp.and IntKind.i64 20 1 = 0 := by decide
                have hbt2 : bits BinOp.and IntKind.i64 20 2 = 0 := by decide
                have hbt4 : bits BinOp.and IntKind.i64 20 4 = 4 := by decide
                have hbt8 : bits BinOp.and IntKind.i64 20 8 = 0 := by decide
                have hbt16 : bits BinOp.and IntKind.i64 20 16 = 16 := by decide
                go_wp2_with (first
                  | (go_at_call 28; refine (fields_is _ 20 HF.out _).mono ?_; rintro e w9 ⟨rfl, n1, hn1⟩; have HE1 := Aside0.mk (EN.at_ HEB.out n1 hn1); clear HEB hb0 hb1 hn1; obtain ⟨hb0, hb1⟩ := HE1.out.cells _ List.mem_cons_self)
                  | (go_at_call 25; refine (enc_num HE1.out x.f0 (by (try simp only [List.length_append, NB_length, encList_length]); omega)).mono ?_; rintro e w11 ⟨v11, rfl, hen⟩; have HE11 := Aside0.mk hen; clear hen HE1 hb0 hb1; obtain ⟨hb0, hb1⟩ := HE11.out.cells _ List.mem_cons_self))
                go_region_law (first
                  | (refine goes_ (f := 29) Try.func29 (by kernel_rfl) rfl #[v11, .slice A3 x.f3.length n3] (by rfl) rfl rfl (by simp [Act.eval, Act.put]) ?_; refine (enc_list HE11.out.drew A3 n3 x.f3 HR.out.1 HR.out.2.1 (by (try simp only [List.length_append, NB_length]); omega)).mono ?_; rintro e w14 ⟨v14, rfl, hen⟩; refine ⟨_, rfl, ?_⟩; have HE14 := Aside0.mk hen; clear hen HE11 hb0 hb1; obtain ⟨hb0, hb1⟩ := HE14.out.cells _ List.mem_cons_self)
                  | (refine goes_ (f := 29) Try.func29 (by kernel_rfl) rfl #[v14, .slice A4 x.f4.length n4] (by rfl) rfl rfl (by simp [Act.eval, Act.put]) ?_; refine (enc_list HE14.out A4 n4 x.f4 HR.out.2.2.1 HR.out.2.2.2.1 (by (try simp only [List.length_append, NB_length, encList_length]); omega)).mono ?_; rintro e w15 ⟨v15, rfl, hen⟩; refine ⟨_, rfl, ?_⟩; have HE15 := Aside0.mk hen; clear hen HE14 hb0 hb1; obtain ⟨hb0, hb1⟩ := HE15.out.cells _ List.mem_cons_self))
                all_goals
                  go_wp2_with ((go_at_call 25; refine (enc_num HE15.out x.f5.length (by (try simp only [List.length_append, NB_length, encList_length]); omega)).mono ?_; rintro e w16 ⟨v16, rfl, hen⟩; have HE16 := Aside0.mk hen; clear hen HE15 hb0 hb1; obtain ⟨hb0, hb1⟩ := HE16.out.cells _ List.mem_cons_self))
                  obtain ⟨pre, HP⟩ : ∃ pre, Aside0 ((acc ++ NB x.f0 ++ encList x.f3 ++ encList x.f4 ++ NB x.f5.length) = pre) := ⟨_, ⟨rfl⟩⟩
                  have HPL : Aside0 (pre.length ≤ acc.length + 1100000) := ⟨by rw [← HP.out]; simp only [List.length_append, NB_length, encList_length]; omega⟩
                  rw [HP.out] at HE16
                  go_loopw [4, 117] (fun v i ws => ∃ (p : Nat) (acc2 : List Int), p ≤ x.f5.length ∧ i = .int .i64 p ∧ Aside0 (acc2 = pre ++ (x.f5.take p).flatMap NB) ∧ Aside0 (acc2.length ≤ acc.length + 1100000 + 8 * p) ∧ Aside0 (EN w ws [(wr.heap.size, #[.int .i64 x.f0, .int .i64 x.f1, .int .i64 x.f2, .slice A3 x.f3.length n3, .slice A4 x.f4.length n4, .slice A5 x.f5.length n5], 43), (w.heap.size, #[.slice A0 es.length c0, .slice A1 ts.length c1, .slice (some ad) cs.length c2], 26)] v acc2))
                    (fun _ i _ => x.f5.length - (intOf i).toNat)
                  case atStart => exact ⟨0, _, Nat.zero_le _, rfl, ⟨by simp⟩, HPL, HE16⟩
                  case round =>
                    clear HE16 hb0 hb1
                    obtain ⟨p, acc2, hp, rfl, HA5, HL5, HE5⟩ := hrel
                    by_cases hlt4 : p < x.f5.length
                    · obtain ⟨ad5, rfl, hc5⟩ := at_int_nat (Kd.C_below HR.out.2.2.2.2.2 HE5.out.bel) p hlt4
                      have HX5 := Aside0.mk (place_step HA5.out hlt4)
                      obtain ⟨y, hy⟩ : ∃ y, x.f5[p] = y := ⟨_, rfl⟩
                      rw [hy] at hc5 HX5
                      clear hy
                      go_wp2_with (go_at_call 25; refine (enc_num HE5.out y (by have := HL5.out; omega)).mono ?_; rintro e w8 ⟨v8, rfl, hen⟩; have HE6 := Aside0.mk hen; clear hen HE5)
                      go_roundw
                      case rel => exact ⟨p + 1, _, by omega, by go_num, HX5, ⟨by rw [List.length_append, NB_length]; have := HL5.out; omega⟩, HE6⟩
                      case measure => simp [intOf]; omega
                    · have HE6 := HE5
                      have HA6 := Aside0.mk (place_end HA5.out hlt4)
                      have HL6 := HL5
                      clear HE5 HA5 HL5
                      go_wp2
                      go_roundw
                      case rel => exact ⟨t + 1, _, by omega, by go_num, ⟨by rw [HA6.out, ← HP.out, ← HX.out, HI2.out]; simp only [List.append_assoc]⟩, ⟨by have := HL6.out; omega⟩, ⟨HE6.out.pop⟩⟩
                      case measure => simp [intOf]; omega
            · have hA := ins_end HA.out hlt3
              obtain ⟨A9, c9, rfl⟩ := Kd.R_slice HE.out.row
              have HLX := Aside0.mk (show encImage es ts cs = acc from hA.symm)
              have HMI := Aside0.mk (show Mine w wr (.slice A9 acc.length c9) acc from Kd.R_mono HE.out.row (fun _ _ => trivial))
              clear hA HL HA
              by_cases h65 : 65536 < acc.length
              · have h65a : (65536 : Int) < acc.length := by omega
                go_wp2
                exact bodyPost_ret (v := .tuple #[.slice none 0 0, .int .i64 3]) (by simp [results, Try.results13, go_sem]) rfl ⟨[], 3, _, .inr (.inl ⟨HM.out, by rw [HLX.out]; exact h65, rfl, rfl⟩), rfl, Kd.R_nil _ _ _ _ _, HE.out.bel⟩
              · have h65a : ¬ (65536 : Int) < acc.length := by omega
                go_wp2
                exact bodyPost_ret (v := .tuple #[.slice A9 acc.length c9, .int .i64 0]) (by simp [results, Try.results13, go_sem]) rfl ⟨acc, 0, _, .inr (.inr ⟨HM.out, by rw [HLX.out]; omega, HLX.out.symm, rfl⟩), rfl, HMI.out, HE.out.bel⟩
theorem encode_is (A0 : Option Addr) (c0 : Nat) (A1 : Option Addr) (c1 : Nat) (A2 : Option Addr) (c2 : Nat) (es : List S45) (ts : List ByteArray) (cs : List S43) (w : World) (hI : ImgAt w A0 c0 A1 c1 A2 c2 es ts cs) (hz : Small cs) :
    Calls Try.prog 13 #[imgV A0 c0 A1 c1 A2 c2 es ts cs] w fun e w' => EncGives es ts cs w e w' := by
  by_cases hm : MayOk es ts cs
  · exact encode_go A0 c0 A1 c1 A2 c2 es ts cs w hI hz hm
  · exact encode_form A0 c0 A1 c1 A2 c2 es ts cs w hI (fun c hc => by have := hz c hc; omega) hm
end Go.Proofs.Ytmjafkhkoifopaa.C16
end
