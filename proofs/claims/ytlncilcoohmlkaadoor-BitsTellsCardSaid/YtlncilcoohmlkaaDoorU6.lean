/- Layer bits: words with changes. -/
import Derived.Test.YtlncilcoohmlkaaDoorU5
import Derived.Lib.SliceRun
import Derived.Lib.Walk
import Derived.Maps.AppendAt
namespace Go.Proofs.YtlncilcoohmlkaaDoor
open Go Go.RowKit Go.Shelf
attribute [local go_sem ↓] Go.wp_at_zero Go.wp_at_succ

theorem u32Info : (Tryd.prog.info? 47).map (fun i => (i.zero, i.size, i.bytes)) = some (some (.int .u32 0), 1, 4) := by kernel_rfl

theorem cloneU_any {w : World} {b off cap : Nat} {l : List Nat} (hb : l.length ≤ 1000) (hc : ∀ i, i < l.length → w.cell? ⟨b, off + i, none⟩ = some (.int .u32 ((l.getD i 0 : Nat) : Int))) :
    Calls Tryd.prog 44 #[.slice (some ⟨b, off, none⟩) l.length cap] w fun r w' => (∃ v', r = .returned v' ∧ w'.ownsRow w.heap.size 47 1 v' l.length (l.map fun x : Nat => Value.int .u32 (x : Int))) ∧ Below w.heap.size w w' := by
  obtain ⟨i0, hi, hz0, hz1, hz2⟩ := info_parts u32Info
  have q22 : ∀ (w : World) (a : Option Addr) (n c n' c' : Nat), (binOp .eql 22 (.slice a n c) (.slice none n' c')).run Tryd.prog w = .ok (.bool a.isNone) w := fun w a n c n' c' => Lib.run_eql_slice_nil w _ _ a n c n' c' Tryd.underlying22
  have A : Hid (∀ i, i < l.length → w.cell? ⟨b, off + i, none⟩ = some (.int .u32 ((l.getD i 0 : Nat) : Int))) := hc
  clear hc
  go_enter Tryd.func44, Tryd.ntmps44
  go_wp2_with (at_builtin; refine wpList_append_own _ rfl _ _ 22 rfl w.heap.size 47 i0 (.int .u32 0) 1 4 Tryd.underlying22 hi hz0 hz1 hz2 rfl (by decide) _ _ _ rfl (World.ownsRow_made w #[] 0 (Nat.le_refl _) (Nat.zero_le _) rfl) ⟨b, off, none⟩ l.length cap (l.map fun x : Nat => Value.int .u32 (x : Int)) rfl ?qc1 ?qc2 ?qc3 ?qc4 ?qc5 ?qc6 ?_)
  case qc1 => simp
  case qc2 =>
    intro j u hj
    have hjn : j < l.length := by
      have := (List.getElem?_eq_some_iff.1 hj).1
      simpa using this
    rw [Addr.add_lit]
    refine Lib.cell?_alloc_some _ ?_
    rw [A.out j hjn]
    rw [← hj]
    simp [List.getD, List.getElem?_eq_getElem hjn]
  case qc3 => intro u hu; obtain ⟨x, _, rfl⟩ := List.mem_map.1 hu; rfl
  case qc4 => unfold maxLen; omega
  case qc5 => omega
  case qc6 => simp
  intro v' w1 hown hgrow hnil
  go_wp2
  go_ret
  refine ⟨⟨v', rfl, by simpa using hown⟩, ?_⟩
  exact ((Below.refl _ w).alloc (Nat.le_refl _) _).grown hgrow (by simp) (by intro k hk; simp [Value.ownBlock] at hk; omega)

/-- Words with place i turned. -/
def setF (on : Bool) (f : Nat → Nat) (i : Nat) : Nat → Nat := fun j => if j = i / 32 then turnW (f j) (i % 32) on else f j
theorem setF_lt {on : Bool} {f : Nat → Nat} {i n : Nat} (h : ∀ j, j < n → f j < 4294967296) : ∀ j, j < n → setF on f i j < 4294967296 := by
  intro j hj
  unfold setF
  by_cases e : j = i / 32
  · rw [if_pos e]; exact turnW_lt _ _ (Nat.mod_lt _ (by decide)) _
  · rw [if_neg e]; exact h j hj
theorem foldF_lt {on : Bool} {f : Nat → Nat} {n : Nat} (h : ∀ j, j < n → f j < 4294967296) (is : List Nat) : ∀ j, j < n → is.foldl (setF on) f j < 4294967296 := by
  induction is generalizing f with
  | nil => exact h
  | cons i is ih => exact ih (setF_lt h)

/-- A slice of closures that turn the places is. -/
structure TurnsV (w : World) (v : Value) (is : List Nat) (on : Bool) : Prop where
  ex : ∃ a cap, v = .slice a is.length cap ∧ ∀ j, j < is.length → ∃ b off I O, a = some ⟨b, off, none⟩ ∧ w.cell? ⟨b, off + j, none⟩ = some (.func (.func 45) #[] #[.pointer (some ⟨I, 0, none⟩), .pointer (some ⟨O, 0, none⟩)]) ∧
    w.cell? ⟨I, 0, none⟩ = some (.int .i64 ((is.getD j 0 : Nat) : Int)) ∧ w.cell? ⟨O, 0, none⟩ = some (.bool on)
theorem TurnsV.below {w w' : World} {v : Value} {is : List Nat} {on : Bool} (h : TurnsV w v is on) (hb : Below w.heap.size w w') : TurnsV w' v is on := by
  obtain ⟨a, cap, e, h⟩ := h.ex
  refine ⟨a, cap, e, fun j hj => ?_⟩
  obtain ⟨b, off, I, O, h1, h2, h3, h4⟩ := h j hj
  exact ⟨b, off, I, O, h1, (hb.cell (p := ⟨b, off + j, none⟩) (cell_lt h2)).trans h2, (hb.cell (p := ⟨I, 0, none⟩) (cell_lt h3)).trans h3, (hb.cell (p := ⟨O, 0, none⟩) (cell_lt h4)).trans h4⟩

theorem results_bits {fn : Func} {p : Tmp} (h : fn.results = #[.cell p 24]) (tmps : Array Value) (w : World) (g1 : Nat) (x v : Value)
    (hp : tmps.getD p undef = .pointer (some ⟨g1, 0, none⟩)) (h1 : w.heap[g1]? = some (.cells #[x, v] 24 (0, 0))) :
    (results fn tmps).run Tryd.prog w = .ok (.agg #[x, v]) w := by
  have hi : (Tryd.prog.info? 24).map (·.size) = some 2 := by kernel_rfl
  exact results_cell_row h _ _ g1 24 #[x, v] (0, 0) _ hp h1 Tryd.underlying24 rfl hi

theorem grown_cell {W W' : World} {g : Nat} (h : W.grownBy W' (some g)) {p : Addr} {v : Value} (hp : p.block ≠ g) (hv : W.cell? p = some v) : W'.cell? p = some v := by
  obtain ⟨_, _, _, _, h5⟩ := h
  have := h5 p.block (cell_lt hv) (fun e => hp (by cases e; rfl))
  unfold World.cell? at hv ⊢
  rw [this]
  exact hv
theorem grown_block {W W' : World} {g k : Nat} {o : Obj} (h : W.grownBy W' (some g)) (hk : k ≠ g) (hv : W.heap[k]? = some o) : W'.heap[k]? = some o := by
  obtain ⟨_, _, _, _, h5⟩ := h
  exact (h5 k (block_lt hv) (fun e => hk (by cases e; rfl))).trans hv
theorem grown_below {W W' : World} {g B : Nat} {w : World} (h : W.grownBy W' (some g)) (hb : Below B w W) (hB : B ≤ g) (hs : B ≤ W.heap.size) : Below B w W' := hb.grown h hs (fun k e => by cases e; exact hB)

set_option maxHeartbeats 2000000 in
set_option maxRecDepth 20000 in
theorem changed_any {w : World} {N : Int} {a : Option Addr} {cap : Nat} {ws : List Nat} {T : Value} {is : List Nat} {on : Bool} (hv : WordsV w (.slice a ws.length cap) ws) (hT : TurnsV w T is on) (h0 : 0 < ws.length) (hl : ws.length ≤ 1000) (hm : is.length ≤ 20000)
    (his : ∀ j, j < is.length → is.getD j 0 < 32 * ws.length ∧ is.getD j 0 ≤ 20000) :
    Calls Tryd.prog 34 #[.agg #[.int .i64 N, .slice a ws.length cap], T] w fun r w' => (∃ g' c', r = .returned (.agg #[.int .i64 N, .slice (some ⟨g', 0, none⟩) ws.length c']) ∧ WordsV w' (.slice (some ⟨g', 0, none⟩) ws.length c') ((List.range ws.length).map fun j => is.foldl (setF on) (fun j => ws.getD j 0) j) ∧ w.heap.size ≤ g') ∧ Below w.heap.size w w' := by
  obtain ⟨aT, capT, rfl, hTc⟩ := hT.ex
  obtain ⟨w1, hw1, a0, a1, a2, a3⟩ := allocs2 w (.cells #[.int .i64 N, .slice a ws.length cap] 24) (.cells #[.int .i64 0, .slice none 0 0] 24)
  have hlt := fun i => hv.lt i
  have c1 := cells_cell (i := 1) a2 (v := .slice a ws.length cap) rfl
  have hv1 := hv.below a0
  obtain ⟨b, off, rfl, _⟩ := hv.at_ 0 h0
  have C : Calls Tryd.prog 44 #[.slice (some ⟨b, off, none⟩) ws.length cap] w1 _ := cloneU_any hl fun i hi => by
    obtain ⟨b', off', e, c⟩ := hv1.at_ i hi
    cases e
    exact c
  have H1 := Lib.hid hw1
  have HTC := Lib.hid hTc
  have HLT := Lib.hid hlt
  have HIS := Lib.hid his
  clear hw1 hlt hv hv1 hT hTc his
  go_enter Tryd.func34, Tryd.ntmps34
  go_wp2_with fail
  rw [H1.out]
  refine C.mono ?_
  rintro r w2 ⟨⟨v2, rfl, hrow⟩, hb2⟩
  obtain ⟨g, cap2, rfl, hg, hA⟩ := ArW.of_row hrow h0
  have hb12 := a0.trans (hb2.mono a0.size)
  have b4 := (hb2.block _ (block_lt a2)).trans a2
  have b5 := (hb2.block _ (block_lt a3)).trans a3
  have hgw : w1.heap.size ≤ g := hg
  have hs1 : w.heap.size + 1 < w1.heap.size := block_lt a3
  have hgl := hA.lt
  have HB4 := Lib.hid b4
  have HB5 := Lib.hid b5
  clear C hrow hg a0 a1 a2 a3 c1 hb2 H1 b4 b5
  go_wp2
  go_loopw [13] (fun i W => ∃ k : Nat, k ≤ is.length ∧ i = .int .i64 k ∧ ArW W g cap2 47 ws.length ((is.take k).foldl (setF on) (fun j => ws.getD j 0)) ∧ w2.grownBy W (some g)) (fun i _ => is.length - (intOf i).toNat)
  case atStart => exact ⟨0, Nat.zero_le _, rfl, hA, ⟨rfl, rfl, rfl, Nat.le_refl _, fun _ _ _ => rfl⟩⟩
  case round =>
    obtain ⟨k, hk, rfl, hA1, hG⟩ := hrel
    by_cases hlt : k < is.length
    · obtain ⟨bT, oT, I, O, rfl, t1, t2, t3⟩ := HTC.out k hlt
      have lift : ∀ {p : Addr} {v : Value}, w.cell? p = some v → wr.cell? p = some v := fun {p v} hp => grown_cell hG (by have := cell_lt hp; omega) ((hb12.cell (cell_lt hp)).trans hp)
      have hI := lift t2
      have hO := lift t3
      have hTk := lift t1
      have hlI := cell_lt t2
      have hlO := cell_lt t3
      have hf := foldF_lt (on := on) (f := fun j => ws.getD j 0) (n := ws.length) (fun j _ => HLT.out j) (is.take k)
      have hik := HIS.out k hlt
      have TU := turn1_any hA1 hf hI hO hik.1 hik.2 (by show I ≠ g; have : I < w.heap.size := hlI; omega) (by show O ≠ g; have : O < w.heap.size := hlO; omega)
      have hle := hA1.le
      have hmx := hA1.mx
      have hst : (is.take (k + 1)).foldl (setF on) (fun j => ws.getD j 0) = setF on ((is.take k).foldl (setF on) (fun j => ws.getD j 0)) (is.getD k 0) := by
        have e : is.getD k 0 = is[k] := by simp [List.getD, hlt]
        rw [e, List.take_add_one, List.getElem?_eq_getElem hlt, List.foldl_append]; rfl
      have HST := Lib.hid hst
      clear t1 t2 t3 lift hI hO hlI hlO hf hik hst hA1 hA
      go_wp2_with fail
      refine TU.mono ?_
      rintro r w3 ⟨⟨v, rfl⟩, hA3, hG3⟩
      have HA3 := Lib.hid hA3
      have hG4 := hG.trans hG3
      clear TU hA3 hG3 hG
      go_wp2
      go_round
      case rel => exact ⟨k + 1, by omega, by go_num, by rw [HST.out]; exact HA3.out, hG4⟩
      case measure => simp [intOf]; omega
    · obtain rfl : k = is.length := by omega
      rw [List.take_length] at hA1
      have b4 := grown_block hG (by omega) HB4.out
      have b5 := grown_block hG (by omega) HB5.out
      have hBw := grown_below hG hb12 (by omega) hb12.size
      have d0 := cells_cell (i := 0) b4 (v := .int .i64 N) rfl
      have d1 := cells_cell (i := 0) b5 (v := .int .i64 0) rfl
      have d2 := cells_cell (i := 1) b5 (v := .slice none 0 0) rfl
      have d3 := cells_free (i := 0) b5
      have d4 := cells_free (i := 1) b5
      have e5 := heap_setCell_same (i := 1) (.slice (some ⟨g, 0, none⟩) ws.length cap2) (heap_setCell_same (i := 0) (.int .i64 N) b5)
      have hbb := (hBw.setCell (p := ⟨w.heap.size + 1, 0, none⟩) (by show w.heap.size ≤ w.heap.size + 1; omega) (.int .i64 N)).setCell (p := ⟨w.heap.size + 1, 1, none⟩) (by show w.heap.size ≤ w.heap.size + 1; omega) (.slice (some ⟨g, 0, none⟩) ws.length cap2)
      have hlt2 := foldF_lt (on := on) (f := fun j => ws.getD j 0) (n := ws.length) (fun j _ => HLT.out j) is
      have hWV : WordsV ((wr.setCell ⟨w.heap.size + 1, 0, none⟩ (.int .i64 N)).setCell ⟨w.heap.size + 1, 1, none⟩ (.slice (some ⟨g, 0, none⟩) ws.length cap2)) (.slice (some ⟨g, 0, none⟩) ws.length cap2) ((List.range ws.length).map fun j => is.foldl (setF on) (fun j => ws.getD j 0) j) := by
        obtain ⟨cur, q1, q2, q3⟩ := hA1.ex
        have hk : ∀ (W : World) (b i : Nat) (v : Value), g ≠ b → (W.setCell ⟨b, i, none⟩ v).heap[g]? = W.heap[g]? := fun W b i v hj => Below.heap_setCell W ⟨b, i, none⟩ v g hj
        have hA2 : ArW ((wr.setCell ⟨w.heap.size + 1, 0, none⟩ (.int .i64 N)).setCell ⟨w.heap.size + 1, 1, none⟩ (.slice (some ⟨g, 0, none⟩) ws.length cap2)) g cap2 47 ws.length (is.foldl (setF on) (fun j => ws.getD j 0)) :=
          ⟨⟨cur, (hk _ _ _ _ (by omega)).trans ((hk _ _ _ _ (by omega)).trans q1), q2, q3⟩, hA1.le, hA1.mx⟩
        refine hA2.words _ (by simp) (fun i => ?_) (fun j hj => ?_)
        · by_cases h : i < ws.length
          · simp [List.getD, h]; exact hlt2 i h
          · simp [List.getD, h]
        · simp [List.getD, hj]
      have E5 := Lib.hid e5
      have HBB := Lib.hid hbb
      have HWV := Lib.hid hWV
      clear b4 b5 e5 hbb hWV hlt2 hBw hG hA1 hA HB4 HB5
      go_wp2
      exact bodyPost_ret (results_bits rfl _ _ (w.heap.size + 1) _ _ rfl E5.out) rfl ⟨⟨_, _, rfl, HWV.out, by omega⟩, HBB.out⟩

/-- Words stay, whatever is stored into another block. -/
theorem WordsV.set {w : World} {g cap n : Nat} {l : List Nat} (h : WordsV w (.slice (Option.some ⟨g, 0, none⟩) n cap) l) (hn : l.length = n) (b i : Nat) (v : Value) (hb : g ≠ b) : WordsV (w.setCell ⟨b, i, none⟩ v) (.slice (Option.some ⟨g, 0, none⟩) n cap) l := by
  subst hn
  have hk : ∀ j, j ≠ b → (w.setCell ⟨b, i, none⟩ v).heap[j]? = w.heap[j]? := fun j hj => Below.heap_setCell w ⟨b, i, none⟩ v j hj
  exact h.sam (S := fun j => j = b) ⟨by show w.heap.size ≤ (w.heap.modify _ _).size; rw [Array.size_modify]; exact Nat.le_refl _, fun k _ hk' => hk k hk'⟩ (fun _ p hp => by cases hp; exact hb)
end Go.Proofs.YtlncilcoohmlkaaDoor
