/- Layer head: a head that came in; heads and their bytes are one to one (plain). -/
import Derived.Test.YtdhligapadblgaaDoorG6
namespace Go.Proofs.YtdhligapadblgaaDoor
open Go.ChangeShapes Go.WideShapes Go.ChangeAt Go.RowKit

theorem markCells : Tryd.prog.cellsOf 23 = 4 := by kernel_rfl
set_option maxRecDepth 100000 in
set_option linter.constructorNameAsVariable false in
theorem mark_open {H : Type} {enc : TypeId × Value → H} {W : World} {base : Nat} {v : Value} {d : DataW H} {ps : List MemPlace} (hok : Value.okWide Tryd.prog W .any base 23 v)
    (h : DataW.Trod enc Tryd.prog W 0 (fun _ => true) true 23 v d ps) : ∃ k l c e, v = .agg #[.int .i64 k, .int .i64 l, .int .i64 c, .int .i64 e] := by
  obtain ⟨c0, c1, c2, c3, y0, y1, y2, y3, m, rfl, rfl, rfl, hy0, hy1, hy2, hy3⟩ := Joins.open_agg4 Tryd.underlying23 (by kernel_rfl) markCells hok h
  obtain ⟨n0, e0, _⟩ := DataW.trod_int Tryd.underlying3 hy0
  obtain ⟨n1, e1, _⟩ := DataW.trod_int Tryd.underlying3 hy1
  obtain ⟨n2, e2, _⟩ := DataW.trod_int Tryd.underlying3 hy2
  obtain ⟨n3, e3, _⟩ := DataW.trod_int Tryd.underlying3 hy3
  simp at e0 e1 e2 e3
  subst e0 e1 e2 e3
  exact ⟨_, _, _, _, rfl⟩

theorem headU_inj {k c e l k' c' e' l' : Nat} (h : headU k c e l = headU k' c' e' l') : headL k c e l = headL k' c' e' l' := by
  unfold headU at h
  have h1 := congrArg (List.map UInt8.toNat) h
  rw [List.map_map, List.map_map] at h1
  have h2 : ∀ k c e l, (headL k c e l).map (UInt8.toNat ∘ UInt8.ofNat) = headL k c e l := fun k c e l => by
    conv => rhs; rw [← List.map_id (headL k c e l)]
    refine List.map_congr_left fun x hx => ?_
    have := headL_lt k c e l x hx
    simp
    omega
  rwa [h2, h2] at h1
theorem encS_inj {k c e l k' c' e' l' : Nat} (h : encS k c e l = encS k' c' e' l') : k % 256 = k' % 256 ∧ c % 256 = c' % 256 ∧ e % 256 = e' % 256 ∧ l % 256 = l' % 256 ∧ l / 256 % 256 = l' / 256 % 256 ∧ l / 256 / 256 % 256 = l' / 256 / 256 % 256 := by
  unfold encS at h
  have h1 : headU k c e l = headU k' c' e' l' := by
    have := congrArg (fun s : ByteArray => s.data.toList) h
    simpa using this
  have h2 := headU_inj h1
  simp [headL, headN] at h2
  exact ⟨h2.1, h2.2.1, h2.2.2.1, h2.2.2.2.1, h2.2.2.2.2.1, h2.2.2.2.2.2.1⟩
theorem encI_inj {k l c e k' l' c' e' : Int} (hr : rightM k l c e = true) (hr' : rightM k' l' c' e' = true) (h : encI k l c e = encI k' l' c' e') : k = k' ∧ l = l' ∧ c = c' ∧ e = e' := by
  unfold encI at h
  rw [hr, hr'] at h
  obtain ⟨a1, a2, a3, a4, a5, a6, a7, a8⟩ := rightM_iff hr
  obtain ⟨b1, b2, b3, b4, b5, b6, b7, b8⟩ := rightM_iff hr'
  obtain ⟨h1, h2, h3, h4, h5, h6⟩ := encS_inj h
  omega
theorem encI_size {k l c e : Int} (hr : rightM k l c e = true) : (encI k l c e).size = 8 := by
  unfold encI
  rw [hr]
  rfl
end Go.Proofs.YtdhligapadblgaaDoor
