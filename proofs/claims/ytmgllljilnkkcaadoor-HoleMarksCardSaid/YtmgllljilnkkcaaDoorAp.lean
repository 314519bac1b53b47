/- append, sharper: the new row lies in the old block or in a fresh one. Of no one program. -/
import Derived.Test.YtmgllljilnkkcaaDoorGf
namespace Go.Proofs.YtmgllljilnkkcaaDoor
open Go Go.RowKit

theorem run_append_where {P : Program} (w : World) (base : Nat) (t ty e : TypeId) (i : TypeInfo) (z : Value) (size bytes : Nat) (ht : P.underlying t = some (.slice e)) (hi : P.info? e = some i) (hz : i.zero = some z)
    (hsize : i.size = size) (hby : i.bytes = bytes) (hzs : z.cells.size = size) (hsz : 0 < size)
    (v : Value) (n : Nat) (xs : List Value) (hown : w.ownsRow base e size v n xs)
    (a : Addr) (m c : Nat) (news : List Value) (hl : news.length = m * size) (hnews : ∀ j u, news[j]? = some u → w.cell? (a.add j) = some u) (h1 : ∀ u ∈ news, u.oneCell' = true)
    (hm : 0 < m) (h63 : n + m ≤ maxLen) (hbytes : (n + m) * bytes ≤ 140737488355328) (hbase : base ≤ w.heap.size) :
    ∃ v' w', (Builtin.append_ #[t, t] ty #[v, .slice (some a) m c]).run P w = .ok v' w' ∧ w'.ownsRow base e size v' (n + m) (xs ++ news) ∧ w.grownBy w' v.ownBlock ∧
      (v'.ownBlock = v.ownBlock ∨ v'.ownBlock = some w.heap.size) := by
  obtain ⟨v', w', hrun, r1, r2, _⟩ := run_append_own (P := P) w base t ty e i z size bytes ht hi hz hsize hby hzs hsz v n xs hown a m c news hl hnews h1 h63 hbytes hbase
  refine ⟨v', w', hrun, r1, r2, ?_⟩
  have h63' : n + m ≤ 9223372036854775807 := by simp only [maxLen] at h63; omega
  subst hsize
  subst hby
  rcases hown.2 with ⟨rfl, rfl⟩ | ⟨g, cap, cur, rfl, hbg, hg, hnc, hcm, hcs, htake⟩
  · have hr := run_append_nil (P := P) w t ty e i z ht hi hz a m c news hl hnews hm (by omega) (by have hb := hbytes; simp only [Nat.zero_add] at hb; omega)
    rw [hrun] at hr
    cases hr
    exact .inr rfl
  · by_cases hroom : n + m ≤ cap
    · have hfit : n * i.size + news.length ≤ cur.size := by rw [hl, hcs, ← Nat.add_mul]; exact Nat.mul_le_mul_right _ hroom
      have hr := run_append_room (P := P) w t ty e i ht hi g n cap cur hg a m c news hl hnews h1 hroom hfit
      rw [hrun] at hr
      cases hr
      exact .inl rfl
    · have holds : ∀ j u, xs[j]? = some u → w.cell? ((⟨g, 0, none⟩ : Addr).add j) = some u := hown.cells (g := g) rfl
      have hr := run_append_grow (P := P) w t ty e i z ht hi hz ⟨g, 0, none⟩ n cap xs hown.1 holds a m c news hl hnews (by omega) (by omega) (growslice_fits (by omega) hbytes)
      rw [hrun] at hr
      cases hr
      exact .inr rfl

theorem wpListIn_append_where {F : Fence} {n : Nat} {P : Program} (w : World) {ops : Array Oper} {rest : List Oper} {o : Oper} {a : Act} {Q : Exit → Act → World → Prop}
    (hg : o.guard = none) (s x : Operand) (t : TypeId) (hop : o.op = Op.call { callee := Callee.builtin Builtin.append, args := #[s, x], argTypes := #[t, t] })
    (base : Nat) (e : TypeId) (i : TypeInfo) (z : Value) (size bytes : Nat) (h1 : P.underlying t = some (.slice e)) (h2 : P.info? e = some i) (h3 : i.zero = some z) (h4 : i.size = size) (h5 : i.bytes = bytes) (h6 : z.cells.size = size) (h7 : 0 < size)
    (v : Value) (k : Nat) (xs : List Value) (hs : a.eval s = v) (hown : w.ownsRow base e size v k xs) (ad : Addr) (m c : Nat) (news : List Value) (hx : a.eval x = .slice (some ad) m c) (hn : news.length = m * size)
    (hc : ∀ j u, news[j]? = some u → w.cell? (ad.add j) = some u) (h1c : ∀ u ∈ news, u.oneCell' = true) (hm : 0 < m) (b1 : k + m ≤ maxLen) (b2 : (k + m) * bytes ≤ 140737488355328) (b3 : base ≤ w.heap.size)
    (hK : ∀ v' w', w'.ownsRow base e size v' (k + m) (xs ++ news) → w.grownBy w' v.ownBlock → (v'.ownBlock = v.ownBlock ∨ v'.ownBlock = some w.heap.size) → wpListIn F n P ops Q rest (a.put o.dst v') w') :
    wpListIn F n P ops Q (o :: rest) a w := by
  refine wpListIn_plain hg fun K hK' => ?_
  obtain ⟨v', w', hrun, r1, r2, r3⟩ := run_append_where (P := P) w base t o.type e i z size bytes h1 h2 h3 h4 h5 h6 h7 v k xs hown ad m c news hn hc h1c hm b1 b2 b3
  unfold Oper.wpIn
  refine ⟨?_, ?_⟩
  · simp [Oper.about, hop, resolve, Target.leads, Sem.run_pure]
  · rw [Oper.semAt_plain F _ _ (by rw [hop]; intro c hc'; cases hc')]
    simp [execOp, hop, resolve, invoke, builtin, hs, hx, hrun, Result.andThen]
    exact hK' _ _ (hK v' w' r1 r2 r3)

theorem ColF.put {w : World} {s D : Nat} {o : Obj} {tb te : TypeId} {size k : Nat} {xs : List Value} {F : Nat → Prop} {W : World} (h : ColF w s D o tb te size k xs F W) (hno : o.isCells = false) (o' : Obj) : ColF w s D o' tb te size k xs F (W.putObj (D + 1) o') := by
  have hs : s ≠ D + 1 := by have := h.col.le; omega
  refine ⟨h.col.put hno o', fun j hj => ?_⟩
  obtain ⟨a1, a2, a3, a4, a5⟩ := h.fr j hj
  exact ⟨by rw [putObj_size]; exact a1, a2, a3, a4, fun v hv => a5 v ((World.putObj_heap_other hs).symm.trans hv)⟩

/-- Behind an append: the box, the row, the frame. -/
theorem ColF.appended {w : World} {s D : Nat} {o : Obj} {tb te : TypeId} {size k m : Nat} {xs ys : List Value} {F : Nat → Prop} {W w1 : World} {v v' : Value} {tmp : Obj}
    (h : ColF w s D o tb te size k xs F W) (hv : Boxed W s tb v) (hrow : W.ownsRow D te size v k xs) (hte : tb ≠ te) (hno : o.isCells = false)
    (hown : w1.ownsRow D te size v' m ys) (hgrow : (W.alloc tmp).grownBy w1 v.ownBlock) (hwh : v'.ownBlock = v.ownBlock ∨ v'.ownBlock = some (W.alloc tmp).heap.size) :
    Boxed w1 s tb v ∧ ColF w s D o tb te size m ys F (w1.setCell ⟨s, 0, none⟩ v') ∧ ∀ j, F j → (w1.setCell ⟨s, 0, none⟩ v').heap[j]? = W.heap[j]? := by
  obtain ⟨a1, a2, _⟩ := h.col.appended (W0 := { W with heap := #[] }) hv hrow hte hno ⟨Nat.zero_le _, fun j hj => absurd hj (Nat.not_lt_zero j)⟩ (Nat.zero_le _) hown hgrow
  have hsz : (w1.setCell ⟨s, 0, none⟩ v').heap.size = w1.heap.size := by show (w1.heap.modify _ _).size = _; rw [Array.size_modify]
  have hgs := hgrow.size
  rw [World.size_alloc] at hgs hwh
  have hbx : Boxed (w1.setCell ⟨s, 0, none⟩ v') s tb v' := a1.set v'
  refine ⟨a1, ⟨a2, fun j hj => ?_⟩, fun j hj => ?_⟩
  · obtain ⟨c1, c2, c3, c4, c5⟩ := h.fr j hj
    refine ⟨by rw [hsz]; omega, c2, c3, c4, fun u hu => ?_⟩
    obtain rfl := boxed_eq hu hbx
    rcases hwh with hwh | hwh
    · rw [hwh]; exact c5 v hv
    · rw [hwh]; intro e; simp at e; omega
  · obtain ⟨c1, c2, c3, c4, c5⟩ := h.fr j hj
    exact (Below.heap_setCell w1 ⟨s, 0, none⟩ _ j c2).trans ((hgrow.block j (by simp; omega) (fun e => c5 v hv e.symm)).trans (Below.heap_alloc _ _ _ c1))
end Go.Proofs.YtmgllljilnkkcaaDoor
