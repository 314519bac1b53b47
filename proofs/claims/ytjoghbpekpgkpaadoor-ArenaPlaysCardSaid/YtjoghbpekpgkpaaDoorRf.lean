/- A range over a function, in line: the statement asks for the iterator's own walk; each call of yield asks for a round's walk. Nothing here is of one program. -/
import Derived.Test.YtjoghbpekpgkpaaDoorChecked
import Derived.RangeFuncNested
import Derived.RangeFuncBound
import Derived.RangeFuncCalls
import Derived.RangeFuncLeaves
import Derived.Shelf.Abstract
import Derived.Shelf.RegionOpen
import Derived.WalkKit
import Derived.OwnWalkIn
import Derived.TacticsInMore
import Derived.LoopNIn
import Derived.LoopIn
namespace Go.Proofs.YtjoghbpekpgkpaaDoor
open Go Go.RowKit
variable {F : Fence} {n m : Nat} {P : Program}

/-- The loop's record. -/
def lrec (fn : FuncId) (a : Act) (ps : Array Tmp) (assign body : Code) (D : Nat) (st : LoopState) (pe : Option Code) : Loop :=
  { state := st, pending := pe, fn, tmps := a.tmps, params := ps, assign, body, defers := D }

/-- What is asked where the iterator has ended. -/
def rfPost (F : Fence) (n : Nat) (P : Program) (Q : Exit → Act → World → Prop) (a : Act) (D : Nat) (rec : LoopState → Option Code → Loop) (e : Ending) (W : World) : Prop :=
  (∃ v, e = .returned v) ∧ W.heap[D]? = some (.deferred (some [])) ∧
    ((W.heap[D + 1]? = some (.loop (rec .ready none)) ∧ Q .normal { a with defers := { target := .collected D, args := #[] } :: a.defers } (W.putObj (D + 1) (.loop (rec .exhausted none)))) ∨
     ∃ c, W.heap[D + 1]? = some (.loop (rec .done (some c))) ∧ c.wpIn F n P Q { a with defers := { target := .collected D, args := #[] } :: a.defers } (W.putObj (D + 1) (.loop (rec .exhausted (some c)))))

theorem rf_inline {g : Operand} {ps : Array Tmp} {assign body : Code} {Q : Exit → Act → World → Prop} {a : Act} {w : World}
    (hro : F.round = none) (h1 : 1 ≤ n) {gf : Nat} {lb : Array Value} (hg : a.eval g = .func (.func gf) #[] lb) (hFg : F.fn gf) (eg : ∀ args w, (callFunc gf args).run P w = .ok (.enter gf args) w)
    (h : ∀ fn, F.fn fn → CallsIn F (n - 1) P gf (#[.func (.yield (w.heap.size + 1)) #[] #[]] ++ lb) ((w.alloc (.deferred (some []))).alloc (.loop (lrec fn a ps assign body w.heap.size .ready none)))
      (rfPost F n P Q a w.heap.size (lrec fn a ps assign body w.heap.size))) :
    (Code.rangeFunc g ps assign body).wpIn F n P Q a w := by
  refine wpIn_rangeFunc ?_
  intro fn hfn
  rw [hro]
  refine ⟨w.heap.size + 1, [{ target := .collected w.heap.size, args := #[] }], (w.alloc (.deferred (some []))).alloc (.loop (lrec fn a ps assign body w.heap.size .ready none)), { target := .fn (.func gf) lb, args := #[.func (.yield (w.heap.size + 1)) #[] #[]] }, (w.alloc (.deferred (some []))).alloc (.loop (lrec fn a ps assign body w.heap.size .ready none)), gf,
    #[.func (.yield (w.heap.size + 1)) #[] #[]] ++ lb, (w.alloc (.deferred (some []))).alloc (.loop (lrec fn a ps assign body w.heap.size .ready none)), run_enterLoop_outer _ _ _ _ _, ?_, ?_, ?_, fun _ => h1, ?_⟩
  · simp only [resolve, hg]
    simp [go_sem]
  · intro f' hf'; simp [Target.leads] at hf'; subst hf'; exact hFg
  · simp [invoke, go_sem, eg, lrec]
  · refine (h fn hfn).mono ?_
    rintro e W ⟨⟨v, rfl⟩, hD, (⟨hl, hq⟩ | ⟨c, hl, hq⟩)⟩
    · exact ⟨none, _, run_endLoop (P := P) hl (by simp [lrec]), hq⟩
    · exact ⟨some c, _, run_endLoop (P := P) hl (by simp [lrec]), hq⟩

/-! ### The same in the plain walk's words (the fence that lets all by); the record is an object of which nothing need be known -/
/-- What is asked where the iterator has ended. -/
def rfEnd (P : Program) (Q : Exit → Act → World → Prop) (a : Act) (D : Nat) (L : LoopState → Option Code → Obj) (e : Ending) (W : World) : Prop :=
  (∃ v, e = .returned v) ∧ W.heap[D]? = some (.deferred (some [])) ∧
    ((W.heap[D + 1]? = some (L .ready none) ∧ Q .normal { a with defers := { target := .collected D, args := #[] } :: a.defers } (W.putObj (D + 1) (L .exhausted none))) ∨
     ∃ c, W.heap[D + 1]? = some (L .done (some c)) ∧ c.wp P Q { a with defers := { target := .collected D, args := #[] } :: a.defers } (W.putObj (D + 1) (L .exhausted (some c))))

/-- What is asked where a round's body is left. -/
def rfRound (l : Nat) (L : LoopState → Option Code → Obj) (R : Ending → World → Prop) : Exit → Act → World → Prop
  | .normal, _, w => w.heap[l]? = some (L .busy none) ∧ R (.returned (.bool true)) (w.putObj l (L .ready none))
  | .ret, _, w => w.heap[l]? = some (L .busy none) ∧ R (.returned (.bool false)) (w.putObj l (L .done (some .ret)))
  | .exit id, _, w => w.heap[l]? = some (L .busy none) ∧ R (.returned (.bool false)) (w.putObj l (L .done (some (.exit id))))
  | .goto t, _, w => w.heap[l]? = some (L .busy none) ∧ R (.returned (.bool false)) (w.putObj l (L .done (some (.goto t))))
  | .panic _, _, _ => False
  | .outgrown, _, _ => False

/-- What a loop's own two blocks are, and what a call of yield asks. -/
structure RfLoop (P : Program) (a : Act) (ps : Array Tmp) (assign body : Code) (D : Nat) (L : LoopState → Option Code → Obj) : Prop where
  cells : ∀ st pe, (L st pe).isCells = false
  walk : ∀ st pe, (L st pe).isWalk = false
  round : ∀ (args : Array Value) (W : World) (R : Ending → World → Prop), args.size = ps.size → W.heap[D + 1]? = some (L .ready none) →
    assign.wpIn (Fence.wide.inRound (D + 1)) 8 P (Exit.then (fun a₁ w₁ => w₁.heap[D + 1]? = some (L .ready none) ∧ body.wpIn (Fence.wide.inRound (D + 1)) 8 P (rfRound (D + 1) L R) a₁ (w₁.putObj (D + 1) (L .busy none))) (fun _ _ _ => False))
      { tmps := (ps.zip args).foldl (fun tmps (t, a) => tmps.setIfInBounds t a) a.tmps, defers := [] } W →
    YieldAt Fence.wide 8 P (D + 1) args W R

theorem rf_wp {g : Operand} {ps : Array Tmp} {assign body : Code} {Q : Exit → Act → World → Prop} {a : Act} {w : World}
    {gf : Nat} {lb : Array Value} (hg : a.eval g = .func (.func gf) #[] lb) (eg : ∀ args w, (callFunc gf args).run P w = .ok (.enter gf args) w)
    (h : ∀ (D : Nat) (L : LoopState → Option Code → Obj) (W1 : World), D = w.heap.size → RfLoop P a ps assign body D L → Below w.heap.size w W1 → W1.heap.size = D + 2 →
      W1.heap[D]? = some (.deferred (some [])) → W1.heap[D + 1]? = some (L .ready none) →
      CallsIn Fence.wide 9 P gf (#[.func (.yield (D + 1)) #[] #[]] ++ lb) W1 (rfEnd P Q a D L)) :
    (Code.rangeFunc g ps assign body).wp P Q a w := by
  refine (wpIn_wide (n := 10)).1 ?_
  refine rf_inline rfl (by decide) hg trivial eg fun fn _ => ?_
  have hb1 : Below w.heap.size w ((w.alloc (.deferred (some []))).alloc (.loop (lrec fn a ps assign body w.heap.size .ready none))) := ((Below.refl _ w).alloc (Nat.le_refl _) _).alloc (by simp) _
  have hL1 : ((w.alloc (.deferred (some []))).alloc (.loop (lrec fn a ps assign body w.heap.size .ready none))).heap[w.heap.size + 1]? = some (.loop (lrec fn a ps assign body w.heap.size .ready none)) := by
    have := World.alloc_heap_new (w.alloc (.deferred (some []))) (.loop (lrec fn a ps assign body w.heap.size .ready none)); rwa [World.size_alloc] at this
  have hK1 : ((w.alloc (.deferred (some []))).alloc (.loop (lrec fn a ps assign body w.heap.size .ready none))).heap[w.heap.size]? = some (.deferred (some [])) :=
    (Below.heap_alloc _ _ _ (by simp)).trans (World.alloc_heap_new w _)
  refine (h w.heap.size (fun st pe => .loop (lrec fn a ps assign body w.heap.size st pe)) _ rfl ⟨fun _ _ => rfl, fun _ _ => rfl, ?_⟩ hb1 (by simp) hK1 hL1).mono ?_
  · intro args W R hs hl hr
    refine ⟨_, _, _, _, run_yield (P := P) hl hs, roundIn_of_wpIn trivial (wpIn_mono hr ?_)⟩
    intro e a₁ w₁ hq
    cases e with
    | normal =>
      obtain ⟨hl₁, hb⟩ := hq
      refine ⟨_, run_beginRound hl₁ rfl, wpIn_mono hb ?_⟩
      intro e a₂ w₂ hq₂
      cases e with
      | normal => exact ⟨_, _, run_endRound (P := P) none hq₂.1, hq₂.2⟩
      | ret => exact ⟨_, _, run_endRound (P := P) (some .ret) hq₂.1, hq₂.2⟩
      | exit id => exact ⟨_, _, run_endRound (P := P) (some (.exit id)) hq₂.1, hq₂.2⟩
      | goto t => exact ⟨_, _, run_endRound (P := P) (some (.goto t)) hq₂.1, hq₂.2⟩
      | panic c => exact hq₂.elim
      | outgrown => exact hq₂.elim
    | ret => exact hq.elim
    | exit id => exact hq.elim
    | goto t => exact hq.elim
    | panic c => exact hq.elim
    | outgrown => exact hq.elim
  · rintro e W ⟨hv, hD, (⟨hl, hq⟩ | ⟨c, hl, hq⟩)⟩
    · exact ⟨hv, hD, .inl ⟨hl, hq⟩⟩
    · exact ⟨hv, hD, .inr ⟨c, hl, wpIn_wide.2 hq⟩⟩

/-- What a function's body must achieve, the mark of a range over a function taken in. -/
def bodyPostR (P : Program) (fn : Func) (R : Ending → World → Prop) : Exit → Act → World → Prop := bodyPostM Fence.wide 8 P fn R

theorem calls_of_wp_marks {f : FuncId} {fn : Func} {c : Code} {args : Array Value} {w : World} {R : Ending → World → Prop}
    (hf : P.funcs[f]? = some fn) (hb : fn.body = some c)
    (h : c.wp P (bodyPostR P fn R) { tmps := args ++ Array.replicate (fn.ntmps - args.size) undef, defers := [] } w) : Calls P f args w R :=
  (callsIn_wide (n := 8)).1 (callsIn_of_wp_marks hf hb trivial (wpIn_wide.2 h))

/-- At the end: one mark is left. -/
theorem bodyPostR_ret {fn : Func} {R : Ending → World → Prop} {tmps : Array Value} {w : World} {D : Nat} {v : Value}
    (hD : w.heap[D]? = some (.deferred (some []))) (hr : (results fn tmps).run P (w.putObj D (.deferred none)) = .ok v (w.putObj D (.deferred none))) (hR : R (.returned v) (w.putObj D (.deferred none))) :
    bodyPostR P fn R .ret { tmps := tmps, defers := [{ target := .collected D, args := #[] }] } w :=
  ⟨by simp, .inl ⟨_, _, rfl, run_takeDeferred hD, v, hr, hR⟩⟩
theorem bodyPostR_end {fn : Func} {R : Ending → World → Prop} {tmps : Array Value} {w : World} {D : Nat} {v : Value}
    (hD : w.heap[D]? = some (.deferred (some []))) (hr : (results fn tmps).run P (w.putObj D (.deferred none)) = .ok v (w.putObj D (.deferred none))) (hR : R (.returned v) (w.putObj D (.deferred none))) :
    bodyPostR P fn R .normal { tmps := tmps, defers := [{ target := .collected D, args := #[] }] } w :=
  ⟨by simp, .inl ⟨_, _, rfl, run_takeDeferred hD, v, hr, hR⟩⟩
/-- .. or none: the body has returned ahead of the loop. -/
theorem bodyPostR_ret0 {fn : Func} {R : Ending → World → Prop} {tmps : Array Value} {w : World} {v : Value}
    (hr : (results fn tmps).run P w = .ok v w) (hR : R (.returned v) w) : bodyPostR P fn R .ret { tmps := tmps, defers := [] } w :=
  ⟨v, hr, hR⟩

/-! ### A scope (a body that holds labels) inside a fence -/
section
variable {b : Frame} {a : Act} {k : List Item} {cs : List Frame} {w : World}
theorem stepR_scope {c : Code} : step P (lone (b.atR a (.code (.scope c) :: k)) cs w) = .next (lone (b.atR a (.code c :: .inScope c :: k)) cs w) :=
  step_lone_go (by simp [stepG, stepG.exec, Frame.atR])
theorem stepR_inScope {c : Code} : step P (lone (b.atR a (.inScope c :: k)) cs w) = .next (lone (b.atR a k) cs w) :=
  step_lone_go (by simp [stepG, stepG.exec, Frame.atR])
end
variable {Q : Exit → Act → World → Prop} {a : Act} {w : World}

/-- As Q; by a goto to label l: what stands behind the label is walked; by any other: no way out. -/
def Exit.ahead (F : Fence) (n : Nat) (P : Program) (l : Nat) (rest : Code) (Q : Exit → Act → World → Prop) : Exit → Act → World → Prop
  | .goto l', a, w => l' = l ∧ rest.wpIn F n P (Exit.noGoto Q) a w
  | e, a, w => Q e a w

theorem exitTo_inScope {id : Nat} {c : Code} {k : List Item} : exitTo id (.inScope c :: k) = exitTo id k := by simp [exitTo]

theorem wpIn_scope_ahead {c rest : Code} (l : Nat) (hf : findLabel c l = some rest) (h : c.wpIn F n P (Exit.ahead F n P l rest Q) a w) : (Code.scope c).wpIn F n P Q a w := by
  intro b k cs hro hb hr
  have h0 : (lone (b.atR a (.code (.scope c) :: k)) cs w).fenced P F := fenced_calm hb hr rfl
  have hg : gotoIn l (.inScope c :: k) = some (.code rest :: .inScope c :: k) := by simp [gotoIn, hf]
  obtain ⟨e, a₁, w₁, hq, harr⟩ := h b (.inScope c :: k) cs hro hb hr
  have tail : ∀ e a₁ w₁ m, Exit.noGoto Q e a₁ w₁ → ArrivesIn (Machine.fenced P F) P m b (.inScope c :: k) cs e a₁ w₁ →
      ∃ e a' w', Q e a' w' ∧ ArrivesIn (Machine.fenced P F) P m b k cs e a' w' := by
    intro e a₁ w₁ m hq harr
    cases e with
    | normal => exact ⟨.normal, a₁, w₁, hq, StepsIn.trans harr (.one (fenced_calm hb hr rfl) stepR_inScope)⟩
    | exit id => exact ⟨.exit id, a₁, w₁, hq, fun k' hk => harr.1 k' (by rw [exitTo_inScope]; exact hk), fun h1 h2 => harr.2 h1 (by rw [exitTo_inScope]; exact h2)⟩
    | goto l' => exact hq.elim
    | ret => exact ⟨_, a₁, w₁, hq, harr⟩
    | panic ch => exact ⟨_, a₁, w₁, hq, harr⟩
    | outgrown => exact ⟨_, a₁, w₁, hq, harr⟩
  cases e with
  | goto l' =>
    obtain ⟨rfl, hrest⟩ := hq
    obtain ⟨e₂, a₂, w₂, hq₂, harr₂⟩ := hrest b (.inScope c :: k) cs hro hb hr
    obtain ⟨e₃, a₃, w₃, hq₃, harr₃⟩ := tail e₂ a₂ w₂ _ hq₂ harr₂
    exact ⟨e₃, a₃, w₃, hq₃, .of_steps (.head h0 stepR_scope (harr.1 _ hg)) harr₃⟩
  | normal => obtain ⟨e₃, a₃, w₃, hq₃, harr₃⟩ := tail .normal a₁ w₁ _ hq harr; exact ⟨e₃, a₃, w₃, hq₃, .of_steps (.one h0 stepR_scope) harr₃⟩
  | exit id => obtain ⟨e₃, a₃, w₃, hq₃, harr₃⟩ := tail (.exit id) a₁ w₁ _ hq harr; exact ⟨e₃, a₃, w₃, hq₃, .of_steps (.one h0 stepR_scope) harr₃⟩
  | ret => obtain ⟨e₃, a₃, w₃, hq₃, harr₃⟩ := tail .ret a₁ w₁ _ hq harr; exact ⟨e₃, a₃, w₃, hq₃, .of_steps (.one h0 stepR_scope) harr₃⟩
  | panic ch => obtain ⟨e₃, a₃, w₃, hq₃, harr₃⟩ := tail (.panic ch) a₁ w₁ _ hq harr; exact ⟨e₃, a₃, w₃, hq₃, .of_steps (.one h0 stepR_scope) harr₃⟩
  | outgrown => obtain ⟨e₃, a₃, w₃, hq₃, harr₃⟩ := tail .outgrown a₁ w₁ _ hq harr; exact ⟨e₃, a₃, w₃, hq₃, .of_steps (.one h0 stepR_scope) harr₃⟩

theorem wpIn_scope_straight {c : Code} (h : c.wpIn F n P (Exit.noGoto Q) a w) : (Code.scope c).wpIn F n P Q a w := by
  intro b k cs hro hb hr
  have h0 : (lone (b.atR a (.code (.scope c) :: k)) cs w).fenced P F := fenced_calm hb hr rfl
  obtain ⟨e, a₁, w₁, hq, harr⟩ := h b (.inScope c :: k) cs hro hb hr
  cases e with
  | normal => exact ⟨.normal, a₁, w₁, hq, .of_steps (e := .normal) (.one h0 stepR_scope) (StepsIn.trans harr (.one (fenced_calm hb hr rfl) stepR_inScope))⟩
  | exit id => exact ⟨.exit id, a₁, w₁, hq, .of_steps (e := .exit id) (.one h0 stepR_scope) ⟨fun k' hk => harr.1 k' (by rw [exitTo_inScope]; exact hk), fun h1 h2 => harr.2 h1 (by rw [exitTo_inScope]; exact h2)⟩⟩
  | goto l' => exact hq.elim
  | ret => exact ⟨_, a₁, w₁, hq, .of_steps (e := .ret) (.one h0 stepR_scope) harr⟩
  | panic ch => exact ⟨_, a₁, w₁, hq, .of_steps (e := .panic ch) (.one h0 stepR_scope) harr⟩
  | outgrown => exact ⟨_, a₁, w₁, hq, .of_steps (e := .outgrown) (.one h0 stepR_scope) harr⟩

/-! ### Small words -/
theorem block_lt {w : World} {k : Nat} {o : Obj} (h : w.heap[k]? = some o) : k < w.heap.size := (Array.getElem?_eq_some_iff.1 h).1
theorem cells_cell {W : World} {B i : Nat} {cs : Array Value} {t : TypeId} {f : Nat × Nat} {v : Value} (h : W.heap[B]? = some (.cells cs t f)) (hv : cs[i]? = some v) : W.cell? ⟨B, i, none⟩ = some v := by
  simp [World.cell?, h, hv]
theorem cells_free {W : World} {B i : Nat} {cs : Array Value} {t : TypeId} (h : W.heap[B]? = some (.cells cs t (0, 0))) : W.frozen? ⟨B, i, none⟩ = false := by
  simp [World.frozen?, h]
theorem heap_setCell_same {W : World} {B i : Nat} {cs : Array Value} {t : TypeId} {f : Nat × Nat} (v : Value) (h : W.heap[B]? = some (.cells cs t f)) : (W.setCell ⟨B, i, none⟩ v).heap[B]? = some (.cells (cs.setIfInBounds i v) t f) := by
  obtain ⟨hlt, hk⟩ := Array.getElem?_eq_some_iff.1 h
  show (W.heap.modify B _)[B]? = _
  rw [Array.getElem?_eq_getElem (by rw [Array.size_modify]; exact hlt), Array.getElem_modify_self, hk]
  rfl
theorem below_putObj {B : Nat} {w W : World} {l : Nat} {o : Obj} (h : Below B w W) (o' : Obj) (hl : W.heap[l]? = some o) (hB : B ≤ l) : Below B w (W.putObj l o') :=
  h.grown (grownBy_putObj' W l o') (by have := block_lt hl; omega) (fun k e => by cases e; exact hB)
theorem below_drewN {B : Nat} {w W : World} (h : Below B w W) (n : Nat) : Below B w (W.drewN n) := ⟨h.os, h.tape, h.output, h.size, h.block⟩
theorem results_tmp3 {fn : Func} {a b c : Tmp} (h : fn.results = #[.tmp a, .tmp b, .tmp c]) (tmps : Array Value) (P : Program) (w : World) :
    (results fn tmps).run P w = .ok (.tuple #[tmps.getD a undef, tmps.getD b undef, tmps.getD c undef]) w := by
  simp [results, h]
theorem results_tmp4 {fn : Func} {a b c d : Tmp} (h : fn.results = #[.tmp a, .tmp b, .tmp c, .tmp d]) (tmps : Array Value) (P : Program) (w : World) :
    (results fn tmps).run P w = .ok (.tuple #[tmps.getD a undef, tmps.getD b undef, tmps.getD c undef, tmps.getD d undef]) w := by
  simp [results, h]
end Go.Proofs.YtjoghbpekpgkpaaDoor
