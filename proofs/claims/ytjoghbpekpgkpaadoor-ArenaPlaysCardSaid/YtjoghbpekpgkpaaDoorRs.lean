/- A region whose head only reads and whose tail comes last, in a round of a range over a function: one walk for all its orders. Of no one program. -/
import Derived.Test.YtjoghbpekpgkpaaDoorRf
import Derived.StillTail
import Derived.StillTailTactics
import Derived.OrdersIn
namespace Go.Proofs.YtjoghbpekpgkpaaDoor
open Go
variable {P : Program}

theorem rowsIn_round {l n : Nat} {row : String} {args : Array Value} {w : World} {R : Value → World → Prop} (h : Rows P row args w R) : RowsIn (Fence.wide.inRound l) n P row args w R := by
  intro c cs _
  obtain ⟨v, w', hr, hs⟩ := h c cs
  exact ⟨v, w', hr, (stepsIn_wide (P := P)).2 hs⟩

theorem upon_round {l n : Nat} {o : Oper} {a : Act} {K K' : Act → World → Prop} {Q : Exit → Act → World → Prop} {r : Result Next} (h : ∀ a w, K a w → K' a w) (hh : o.upon P a K Q r) : o.uponIn (Fence.wide.inRound l) n P a K' Q r := by
  cases r with
  | ok nx w =>
    cases nx with
    | value v => exact h _ _ hh
    | skip => exact h _ _ hh
    | defer d => exact h _ _ hh
    | enter f args => exact ⟨fun e => (Bool.false_ne_true e).elim, CallsIn.inRound l (callsIn_wide.2 (Calls.mono hh fun e w'' he => by cases e <;> first | exact h _ _ he | exact he))⟩
    | row row args => exact ⟨fun e => (Bool.false_ne_true e).elim, rowsIn_round (Rows.mono hh fun _ _ he => h _ _ he)⟩
    | _ => exact hh.elim
  | halt x w => cases x <;> exact hh

theorem wpAny_round {l n : Nat} {ops : Array Oper} {md : Region.Mode} {Q : Exit → Act → World → Prop} (hQ : ¬ LetsOut Q) (hd : ∀ (i : Nat) (o : Oper) c, ops[i]? = some o → o.op ≠ .defer c) :
    ∀ (fuel : Nat) (listed : Array Bool) (a : Act) (w : World), wpAny P md ops Q fuel listed a w → wpAnyIn (Fence.wide.inRound l) n P md ops Q fuel listed a w
  | 0, _, _, _, h => h
  | fuel + 1, listed, a, w, h => by
    refine ⟨h.1, fun i hi => ?_⟩
    have h1 := h.2 i hi
    unfold wpOp at h1
    unfold wpOpIn
    cases ho : ops[i]? with
    | none => rw [ho] at h1; exact wpAny_round hQ hd fuel _ _ _ h1
    | some o =>
      rw [ho] at h1
      simp only at h1 ⊢
      by_cases hw : Region.wanted o (yielded ops a.tmps) = true
      · rw [if_pos hw] at h1 ⊢
        rcases h1 with h1 | ⟨_, h2⟩
        · refine ⟨fun _ _ => trivial, ?_⟩
          have hs : o.semAt (Fence.wide.inRound l).round a.eval = execOp a.eval o := Oper.semAt_some l a.eval o (hd i o · ho)
          rw [hs]
          exact upon_round (fun a w hk => wpAny_round hQ hd fuel _ _ _ hk) h1
        · exact absurd h2 hQ
      · rw [if_neg hw] at h1 ⊢
        exact ⟨fun _ _ => trivial, wpAny_round hQ hd fuel _ _ _ h1⟩

theorem wpIn_region_still_tail {l0 N id : Nat} {Q : Exit → Act → World → Prop} {a : Act} {w : World} {l : List Oper} (n : Nat) (hm : P.follows .mixedOrders = true) (hB : Region.lexTailB .any l.toArray n = true)
    (hQ : ¬ LetsOut Q) (hd : (l.all fun o => match o.op with | .defer _ => false | _ => true) = true)
    (h : wpStill P l.toArray { w with drawn := w.drawn + 1 } (fun a' => wpList P l.toArray Q (l.drop n) a' { w with drawn := w.drawn + 1 }) (l.take n) a) : (Code.region id l.toArray true).wpIn (Fence.wide.inRound l0) N P Q a w := by
  simp only [Region.lexTailB, Bool.and_eq_true, decide_eq_true_eq] at hB
  obtain ⟨⟨⟨⟨hsel, hn⟩, hs⟩, hc⟩, hlex⟩ := hB
  have hn' : n < l.length := by simpa using hn
  have htl : (l.take n).length = n := by simp; omega
  have hdl : (l.drop n).length = l.toArray.size - n := by simp
  have inv0 : HeadInv .any l.toArray n (Array.replicate l.toArray.size false) :=
    ⟨by simp, fun j oj _ hl => (by rw [getD_replicate_false] at hl; cases hl), fun t _ ht => getD_in (by simpa using ht) (getD_replicate_false _ _)⟩
  have H := wpAnyL_lex (md := .any) (g := l.toArray.size - n) hsel hs hc hn (l.take n) 0 _ a (fun j hj => by
    have hj' : j < n := by rw [htl] at hj; exact hj
    simp [hj']) (by simpa using htl) inv0 (by rw [htl]; exact hlex) h
  refine wpIn_region_any hm ?_
  have := wpAny_of_head (Q' := Q) (g := l.toArray.size - n) (fun listed a' hL => by
    have := wpAny_of_seq (md := .any) (Q' := Q) (l.drop n) n listed a' { w with drawn := w.drawn + 1 } (fun j => by simp [List.getElem?_drop]) (by rw [hdl]; exact hL.1) hL.2
    rwa [hdl] at this) _ _ _ H
  rw [htl, show n + (l.toArray.size - n) = l.toArray.size by omega] at this
  refine wpAny_round hQ (fun i o c ho e => ?_) _ _ _ _ this
  have hm := List.all_eq_true.1 hd o (List.mem_of_getElem? (by simpa using ho))
  rw [e] at hm
  cases hm
end Go.Proofs.YtjoghbpekpgkpaaDoor
