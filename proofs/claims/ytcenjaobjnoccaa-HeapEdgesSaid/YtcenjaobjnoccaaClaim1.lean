/- HeapPlays, HeapSorts, HeapEdges, HeapTwo: for every input the law returns true, and each argument reads behind the call as it read before. No condition. -/
import Derived.Test.YtcenjaobjnoccaaSeat
import Derived.Test.YtcenjaobjnoccaaRLaw7g
namespace Go.Proofs.Ytcenjaobjnoccaa
open Go.ChangeShapes Go.WideShapes Go.ChangeAt Go.RowKit Go.Rm Go.Deep

theorem own : ownKnob Try.prog.godebug = none := by kernel_rfl
theorem laidOut : laidOutB Try.prog = true := by kernel_rfl
theorem cells2 : Try.prog.cellsOf 2 = 1 := by kernel_rfl
theorem cells3 : Try.prog.cellsOf 3 = 1 := by kernel_rfl
theorem cells5 : Try.prog.cellsOf 5 = 1 := by kernel_rfl
theorem cells29 : Try.prog.cellsOf 29 = 3 := by kernel_rfl
theorem heapFns : HeapFns seat.sys := ⟨has_heap_New, has_heap_Heap_Put, has_heap_Heap_Pop, has_heap_Heap_Cost, has_heap_Heap_Len, has_heap_Heap_Clear, has_heap_Heap_key, has_heap_Heap_up, has_heap_Heap_down, has_heap_Heap_ahead, has_heap_Heap_swap, has_cost_Held⟩
theorem refFns : RefFns seat.sys := ⟨has_rref11_NewHeap, has_rref11_Heap_Put, has_rref11_Heap_Pop, has_rref11_Heap_Cost, has_rref11_Heap_Len, has_rref6_Held⟩

theorem acts_at {H : Type} {enc : TypeId × Value → H} {W : World} {v : Value} (h : Go.Rm.Read enc Try.prog W 0 22 [v]) :
    ∃ (s : Sl) (kd ky co : Nat → Int), v = s.v ∧ ActsAt W.heap s kd ky co := by
  obtain ⟨s, e, hok, _, hx⟩ := h.slice Try.underlying22 cells29 (by omega)
  obtain ⟨f, hf⟩ := choose_lt (α := Int × Int × Int) (n := s.n) (p := fun i x => hc W.heap s.b (s.o + i * 3) = some (.int .i64 x.1) ∧ hc W.heap s.b (s.o + i * 3 + 1) = some (.int .i64 x.2.1) ∧ hc W.heap s.b (s.o + i * 3 + 2) = some (.int .i64 x.2.2)) (fun i hi => by
    obtain ⟨cs, hl, hc, hr⟩ := hx i hi
    obtain ⟨a, ha, _⟩ := hr.fint (i := 0) Try.underlying29 rfl Try.underlying3 cells3
    obtain ⟨b, hb, _⟩ := hr.fint (i := 1) Try.underlying29 rfl Try.underlying3 cells3
    obtain ⟨c, hc', _⟩ := hr.fint (i := 2) Try.underlying29 rfl Try.underlying2 cells2
    exact ⟨(a, b, c), by rw [← ha]; exact hc 0 (by omega), by rw [← hb]; exact hc 1 (by omega), by rw [← hc']; exact hc 2 (by omega)⟩)
  exact ⟨s, fun i => (f i).1, fun i => (f i).2.1, fun i => (f i).2.2, by simpa using e, hok, fun i hi => (hf i hi).1, fun i hi => (hf i hi).2.1, fun i hi => (hf i hi).2.2⟩

theorem u8_range {h : Heap} {s : Sl} {f : Nat → Int} (hs : IntsAt h s .u8 f) (hf : ∀ i, i < s.n → IntKind.u8.min ≤ f i ∧ f i ≤ IntKind.u8.max) :
    ∃ g : Nat → Nat, (∀ i, g i < 256) ∧ IntsAt h s .u8 (fun i => (g i : Int)) := by
  refine ⟨fun i => if i < s.n then (f i).toNat else 0, fun i => ?_, hs.ok, fun i hi => ?_⟩
  · show (if i < s.n then (f i).toNat else 0) < 256
    split
    · rename_i hi
      have h1 : (0 : Int) ≤ f i := (hf i hi).1
      have h2 : f i ≤ 255 := (hf i hi).2
      omega
    · omega
  · have h1 : (0 : Int) ≤ f i := (hf i hi).1
    have h3 : (((if i < s.n then (f i).toNat else 0 : Nat)) : Int) = f i := by rw [if_pos hi]; omega
    show hc h s.b (s.o + i) = some (.int .u8 (((if i < s.n then (f i).toNat else 0 : Nat)) : Int))
    rw [h3]
    exact hs.val i hi

set_option maxRecDepth 100000 in
theorem heapPlays_lifted (os : Os) (started : os.Started) (H : Type) (enc : TypeId × Value → H) :
    ReturnsInHanded {} Try.checked os 3 .any (Rows.heapPlaysSpec.pre6 enc Try.prog Try.f3 Rows.heapPlaysRow.domain false) (Rows.heapPlaysSpec.post enc Try.prog Try.f3 false true false false) := by
  refine law_lifted (C := Try.checked) own started (by kernel_rfl) Try.func3
    (ChangeSpec.witness6 (enc := enc) (C := Try.checked) false ⟨#[], #[.int .i64 0, .slice none 0 0], []⟩ 8 (by kernel_rfl) (by kernel_rfl) (by kernel_rfl) (by kernel_rfl))
    ⟨rfl, fun H ds h => by rw [Try.params3] at h; match ds, h with | [d1, d2], _ => rfl⟩ laidOut (readable_of (by kernel_rfl)) (tb := 4) (by kernel_rfl) Try.underlying4 ?_
  intro W vs hA
  rw [Try.params3] at hA
  match vs, hA with
  | [v1, v2], ⟨h1, h2, _⟩ =>
    obtain ⟨n, rfl, _⟩ := h1.int Try.underlying3
    obtain ⟨s, kd, ky, co, rfl, ha⟩ := acts_at (h2.slice Try.underlying22)
    exact sysC_of (s := seat) (by kernel_rfl) (plays_spec has_rlaw7_HeapPlays has_rlaw7_known has_rlaw7_same heapFns refFns ha fun h' he => ⟨rfl, he⟩)

theorem heapPlays_holds : Rows.HeapPlaysSaid :=
  OpenClaim.holds_of_wide 3 Try.f3 rfl rfl rfl rfl rfl rfl rfl ⟨rfl, rfl, rfl, rfl, rfl⟩ rfl rfl rfl rfl rfl (by kernel_rfl) Try.func3 (by kernel_rfl)
    (of_decide_eq_true (by kernel_rfl)) (by unfold Func.isWrapper; first | (rw [if_pos (by decide +kernel)]; kernel_rfl) | (rw [if_neg (by decide +kernel)]; exact ⟨rfl, rfl⟩))
    (fun os started H enc _ => heapPlays_lifted os started H enc)

set_option maxRecDepth 100000 in
theorem heapSorts_lifted (os : Os) (started : os.Started) (H : Type) (enc : TypeId × Value → H) :
    ReturnsInHanded {} Try.checked os 4 .any (Rows.heapSortsSpec.pre6 enc Try.prog Try.f4 Rows.heapSortsRow.domain false) (Rows.heapSortsSpec.post enc Try.prog Try.f4 false true false false) := by
  refine law_lifted (C := Try.checked) own started (by kernel_rfl) Try.func4
    (ChangeSpec.witness6 (enc := enc) (C := Try.checked) false ⟨#[], #[.slice none 0 0, .slice none 0 0], []⟩ 8 (by kernel_rfl) (by kernel_rfl) (by kernel_rfl) (by kernel_rfl))
    ⟨rfl, fun H ds h => by rw [Try.params4] at h; match ds, h with | [d1, d2], _ => rfl⟩ laidOut (readable_of (by kernel_rfl)) (tb := 4) (by kernel_rfl) Try.underlying4 ?_
  intro W vs hA
  rw [Try.params4] at hA
  match vs, hA with
  | [v1, v2], ⟨h1, h2, _⟩ =>
    obtain ⟨s, f, rfl, _, hs, hf⟩ := h1.ints Try.underlying35 Try.underlying5 cells5
    obtain ⟨c, cf, rfl, _, hc, _⟩ := h2.ints Try.underlying36 Try.underlying2 cells2
    obtain ⟨g, hg, hs'⟩ := u8_range hs hf
    exact sysC_of (s := seat) (by kernel_rfl) (sorts_spec has_rlaw7_HeapSorts has_rlaw7_known heapFns has_rref6_Held (fun i _ => hg i) hs' hc fun h' he => ⟨rfl, he⟩)

theorem heapSorts_holds : Rows.HeapSortsSaid :=
  OpenClaim.holds_of_wide 4 Try.f4 rfl rfl rfl rfl rfl rfl rfl ⟨rfl, rfl, rfl, rfl, rfl⟩ rfl rfl rfl rfl rfl (by kernel_rfl) Try.func4 (by kernel_rfl)
    (of_decide_eq_true (by kernel_rfl)) (by unfold Func.isWrapper; first | (rw [if_pos (by decide +kernel)]; kernel_rfl) | (rw [if_neg (by decide +kernel)]; exact ⟨rfl, rfl⟩))
    (fun os started H enc _ => heapSorts_lifted os started H enc)

set_option maxRecDepth 100000 in
theorem heapEdges_lifted (os : Os) (started : os.Started) (H : Type) (enc : TypeId × Value → H) :
    ReturnsInHanded {} Try.checked os 5 .any (Rows.heapEdgesSpec.pre6 enc Try.prog Try.f5 Rows.heapEdgesRow.domain false) (Rows.heapEdgesSpec.post enc Try.prog Try.f5 false true false false) := by
  refine law_lifted (C := Try.checked) own started (by kernel_rfl) Try.func5
    (ChangeSpec.witness6 (enc := enc) (C := Try.checked) false ⟨#[], #[.int .i64 0, .int .i64 0], []⟩ 8 (by kernel_rfl) (by kernel_rfl) (by kernel_rfl) (by kernel_rfl))
    ⟨rfl, fun H ds h => by rw [Try.params5] at h; match ds, h with | [d1, d2], _ => rfl⟩ laidOut (readable_of (by kernel_rfl)) (tb := 4) (by kernel_rfl) Try.underlying4 ?_
  intro W vs hA
  rw [Try.params5] at hA
  match vs, hA with
  | [v1, v2], ⟨h1, h2, _⟩ =>
    obtain ⟨n, rfl, _⟩ := h1.int Try.underlying3
    obtain ⟨c, rfl, _⟩ := h2.int Try.underlying2
    exact sysC_of (s := seat) (by kernel_rfl) (edges_spec has_rlaw7_HeapEdges has_rlaw7_known heapFns has_rref6_Held fun h' he => ⟨rfl, he⟩)

theorem heapEdges_holds : Rows.HeapEdgesSaid :=
  OpenClaim.holds_of_wide 5 Try.f5 rfl rfl rfl rfl rfl rfl rfl ⟨rfl, rfl, rfl, rfl, rfl⟩ rfl rfl rfl rfl rfl (by kernel_rfl) Try.func5 (by kernel_rfl)
    (of_decide_eq_true (by kernel_rfl)) (by unfold Func.isWrapper; first | (rw [if_pos (by decide +kernel)]; kernel_rfl) | (rw [if_neg (by decide +kernel)]; exact ⟨rfl, rfl⟩))
    (fun os started H enc _ => heapEdges_lifted os started H enc)

set_option maxRecDepth 100000 in
theorem heapTwo_lifted (os : Os) (started : os.Started) (H : Type) (enc : TypeId × Value → H) :
    ReturnsInHanded {} Try.checked os 6 .any (Rows.heapTwoSpec.pre6 enc Try.prog Try.f6 Rows.heapTwoRow.domain false) (Rows.heapTwoSpec.post enc Try.prog Try.f6 false true false false) := by
  refine law_lifted (C := Try.checked) own started (by kernel_rfl) Try.func6
    (ChangeSpec.witness6 (enc := enc) (C := Try.checked) false ⟨#[], #[.slice none 0 0, .slice none 0 0, .slice none 0 0], []⟩ 8 (by kernel_rfl) (by kernel_rfl) (by kernel_rfl) (by kernel_rfl))
    ⟨rfl, fun H ds h => by rw [Try.params6] at h; match ds, h with | [d1, d2, d3], _ => rfl⟩ laidOut (readable_of (by kernel_rfl)) (tb := 4) (by kernel_rfl) Try.underlying4 ?_
  intro W vs hA
  rw [Try.params6] at hA
  match vs, hA with
  | [v1, v2, v3], ⟨h1, h2, h3, _⟩ =>
    obtain ⟨a, af, rfl, _, ha, haf⟩ := h1.ints Try.underlying35 Try.underlying5 cells5
    obtain ⟨b, bf, rfl, _, hb, hbf⟩ := h2.ints Try.underlying35 Try.underlying5 cells5
    obtain ⟨c, cf, rfl, _, hc, _⟩ := h3.ints Try.underlying36 Try.underlying2 cells2
    obtain ⟨ga, hga, ha'⟩ := u8_range ha haf
    obtain ⟨gb, hgb, hb'⟩ := u8_range hb hbf
    exact sysC_of (s := seat) (by kernel_rfl) (two_spec has_rlaw7_HeapTwo has_rlaw7_known has_rlaw7_first heapFns has_rref6_Held ha' hb' hc (fun i => by have := hgb i; omega) (fun i => by have := hga i; omega) fun h' he => ⟨rfl, he⟩)

theorem heapTwo_holds : Rows.HeapTwoSaid :=
  OpenClaim.holds_of_wide 6 Try.f6 rfl rfl rfl rfl rfl rfl rfl ⟨rfl, rfl, rfl, rfl, rfl⟩ rfl rfl rfl rfl rfl (by kernel_rfl) Try.func6 (by kernel_rfl)
    (of_decide_eq_true (by kernel_rfl)) (by unfold Func.isWrapper; first | (rw [if_pos (by decide +kernel)]; kernel_rfl) | (rw [if_neg (by decide +kernel)]; exact ⟨rfl, rfl⟩))
    (fun os started H enc _ => heapTwo_lifted os started H enc)
end Go.Proofs.Ytcenjaobjnoccaa
