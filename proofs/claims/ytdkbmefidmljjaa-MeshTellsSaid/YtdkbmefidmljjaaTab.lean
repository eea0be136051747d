/- What is used of the program's types. Conditions: none. -/
import Derived.Test.YtdkbmefidmljjaaProg
import Derived.Test.YtdkbmefidmljjaaVB
import Derived.KernelRfl
namespace Go.Proofs.Ytdkbmefidmljjaa
open V
def tab : Tab := [
  (2, ⟨false, 1, 8, .int .i64 0, [], none⟩),
  (3, ⟨false, 1, 8, .int .i64 0, [], none⟩),
  (4, ⟨false, 1, 1, .bool false, [], none⟩),
  (5, ⟨false, 1, 1, .int .u8 0, [], none⟩),
  (9, ⟨false, 1, 16, .string ⟨#[]⟩, [], none⟩),
  (12, ⟨false, 1, 8, .int .u64 0, [], none⟩),
  (13, ⟨true, 2, 24, .agg #[.string ⟨#[]⟩, .int .u64 0], [(0, 1), (1, 1)], none⟩),
  (21, ⟨false, 1, 4, .int .i32 0, [], none⟩),
  (22, ⟨false, 1, 24, .slice none 0 0, [], some 26⟩),
  (23, ⟨true, 2, 16, .agg #[.int .i64 0, .int .i64 0], [(0, 1), (1, 1)], none⟩),
  (24, ⟨true, 2, 16, .agg #[.int .i64 0, .int .i64 0], [(0, 1), (1, 1)], none⟩),
  (25, ⟨true, 6, 48, .agg #[.int .i64 0, .int .i64 0, .int .i64 0, .int .i64 0, .int .i64 0, .int .i64 0], [(0, 2), (2, 2), (4, 2)], none⟩),
  (26, ⟨true, 6, 48, .agg #[.int .i64 0, .int .i64 0, .int .i64 0, .int .i64 0, .int .i64 0, .int .i64 0], [(0, 2), (2, 2), (4, 2)], none⟩),
  (28, ⟨false, 1, 8, .pointer none, [], none⟩),
  (29, ⟨false, 1, 8, .int .i64 0, [], none⟩),
  (32, ⟨false, 1, 8, .pointer none, [], none⟩),
  (43, ⟨false, 1, 24, .slice none 0 0, [], some 24⟩),
  (45, ⟨false, 1, 8, .map none, [], none⟩),
  (46, ⟨false, 1, 8, .map none, [], none⟩),
  (47, ⟨true, 2, 16, .agg #[.map none, .map none], [(0, 1), (1, 1)], none⟩),
  (48, ⟨true, 2, 16, .agg #[.map none, .map none], [(0, 1), (1, 1)], none⟩),
  (50, ⟨false, 1, 8, .map none, [], none⟩),
  (51, ⟨true, 1, 8, .agg #[.map none], [(0, 1)], none⟩),
  (52, ⟨true, 1, 8, .agg #[.map none], [(0, 1)], none⟩),
  (57, ⟨true, 4, 32, .agg #[.int .i64 0, .int .i64 0, .int .i64 0, .int .i64 0], [(0, 2), (2, 2)], none⟩),
  (58, ⟨true, 4, 32, .agg #[.int .i64 0, .int .i64 0, .int .i64 0, .int .i64 0], [(0, 2), (2, 2)], none⟩),
  (59, ⟨true, 4, 32, .agg #[.int .i64 0, .int .i64 0, .int .i64 0, .int .i64 0], [(0, 2), (2, 2)], none⟩),
  (60, ⟨true, 4, 32, .agg #[.int .i64 0, .int .i64 0, .int .i64 0, .int .i64 0], [(0, 2), (2, 2)], none⟩),
  (71, ⟨false, 1, 8, .map none, [], none⟩),
  (77, ⟨false, 1, 8, .map none, [], none⟩),
  (78, ⟨false, 1, 24, .slice none 0 0, [], some 58⟩),
  (80, ⟨true, 12, 96, .agg #[.int .i64 0, .int .i64 0, .int .i64 0, .int .i64 0, .int .i64 0, .int .i64 0, .int .i64 0, .int .i64 0, .int .i64 0, .int .i64 0, .int .i64 0, .int .i64 0], [], none⟩),
  (84, ⟨true, 6, 48, .agg #[.int .i64 0, .int .i64 0, .int .i64 0, .int .i64 0, .int .i64 0, .int .i64 0], [], none⟩),
  (96, ⟨false, 1, 8, .int .u64 0, [], none⟩),
  (97, ⟨false, 1, 24, .slice none 0 0, [], some 3⟩),
  (103, ⟨false, 1, 8, .int .i64 0, [], none⟩),
  (111, ⟨false, 1, 4, .int .u32 0, [], none⟩),
  (113, ⟨false, 1, 8, .int .u64 0, [], none⟩),
  (119, ⟨false, 1, 8, .int .u64 0, [], none⟩),
  (123, ⟨false, 1, 8, .pointer none, [], none⟩),
  (127, ⟨false, 1, 8, .pointer none, [], none⟩),
  (140, ⟨false, 1, 8, .pointer none, [], none⟩)]
theorem ti2 : OkTI Try.prog 2 ⟨false, 1, 8, .int .i64 0, [], none⟩ := ⟨by kernel_rfl, by kernel_rfl, by kernel_rfl, by kernel_rfl⟩ -- int64
theorem ti3 : OkTI Try.prog 3 ⟨false, 1, 8, .int .i64 0, [], none⟩ := ⟨by kernel_rfl, by kernel_rfl, by kernel_rfl, by kernel_rfl⟩ -- int
theorem ti4 : OkTI Try.prog 4 ⟨false, 1, 1, .bool false, [], none⟩ := ⟨by kernel_rfl, by kernel_rfl, by kernel_rfl, by kernel_rfl⟩ -- bool
theorem ti5 : OkTI Try.prog 5 ⟨false, 1, 1, .int .u8 0, [], none⟩ := ⟨by kernel_rfl, by kernel_rfl, by kernel_rfl, by kernel_rfl⟩ -- uint8
theorem ti9 : OkTI Try.prog 9 ⟨false, 1, 16, .string ⟨#[]⟩, [], none⟩ := ⟨by kernel_rfl, by kernel_rfl, by kernel_rfl, by kernel_rfl⟩ -- string
theorem ti12 : OkTI Try.prog 12 ⟨false, 1, 8, .int .u64 0, [], none⟩ := ⟨by kernel_rfl, by kernel_rfl, by kernel_rfl, by kernel_rfl⟩ -- uintptr
theorem ti13 : OkTI Try.prog 13 ⟨true, 2, 24, .agg #[.string ⟨#[]⟩, .int .u64 0], [(0, 1), (1, 1)], none⟩ := ⟨by kernel_rfl, by kernel_rfl, by kernel_rfl, by kernel_rfl⟩ -- struct { msg string; addr uintptr }
theorem ti21 : OkTI Try.prog 21 ⟨false, 1, 4, .int .i32 0, [], none⟩ := ⟨by kernel_rfl, by kernel_rfl, by kernel_rfl, by kernel_rfl⟩ -- int32
theorem ti22 : OkTI Try.prog 22 ⟨false, 1, 24, .slice none 0 0, [], some 26⟩ := ⟨by kernel_rfl, by kernel_rfl, by kernel_rfl, by kernel_rfl⟩ -- []api.Tri
theorem ti23 : OkTI Try.prog 23 ⟨true, 2, 16, .agg #[.int .i64 0, .int .i64 0], [(0, 1), (1, 1)], none⟩ := ⟨by kernel_rfl, by kernel_rfl, by kernel_rfl, by kernel_rfl⟩ -- struct { X int; Y int }
theorem ti24 : OkTI Try.prog 24 ⟨true, 2, 16, .agg #[.int .i64 0, .int .i64 0], [(0, 1), (1, 1)], none⟩ := ⟨by kernel_rfl, by kernel_rfl, by kernel_rfl, by kernel_rfl⟩ -- api.Point
theorem ti25 : OkTI Try.prog 25 ⟨true, 6, 48, .agg #[.int .i64 0, .int .i64 0, .int .i64 0, .int .i64 0, .int .i64 0, .int .i64 0], [(0, 2), (2, 2), (4, 2)], none⟩ := ⟨by kernel_rfl, by kernel_rfl, by kernel_rfl, by kernel_rfl⟩ -- struct { A api.Point; B api.Point; C api.Point }
theorem ti26 : OkTI Try.prog 26 ⟨true, 6, 48, .agg #[.int .i64 0, .int .i64 0, .int .i64 0, .int .i64 0, .int .i64 0, .int .i64 0], [(0, 2), (2, 2), (4, 2)], none⟩ := ⟨by kernel_rfl, by kernel_rfl, by kernel_rfl, by kernel_rfl⟩ -- api.Tri
theorem ti28 : OkTI Try.prog 28 ⟨false, 1, 8, .pointer none, [], none⟩ := ⟨by kernel_rfl, by kernel_rfl, by kernel_rfl, by kernel_rfl⟩ -- *mesh.Mesh
theorem ti29 : OkTI Try.prog 29 ⟨false, 1, 8, .int .i64 0, [], none⟩ := ⟨by kernel_rfl, by kernel_rfl, by kernel_rfl, by kernel_rfl⟩ -- api.Errno
theorem ti32 : OkTI Try.prog 32 ⟨false, 1, 8, .pointer none, [], none⟩ := ⟨by kernel_rfl, by kernel_rfl, by kernel_rfl, by kernel_rfl⟩ -- *hectareref1.Mesh
theorem ti43 : OkTI Try.prog 43 ⟨false, 1, 24, .slice none 0 0, [], some 24⟩ := ⟨by kernel_rfl, by kernel_rfl, by kernel_rfl, by kernel_rfl⟩ -- []api.Point
theorem ti45 : OkTI Try.prog 45 ⟨false, 1, 8, .map none, [], none⟩ := ⟨by kernel_rfl, by kernel_rfl, by kernel_rfl, by kernel_rfl⟩ -- map[api.Tri]bool
theorem ti46 : OkTI Try.prog 46 ⟨false, 1, 8, .map none, [], none⟩ := ⟨by kernel_rfl, by kernel_rfl, by kernel_rfl, by kernel_rfl⟩ -- map[mesh.edge]api.Tri
theorem ti47 : OkTI Try.prog 47 ⟨true, 2, 16, .agg #[.map none, .map none], [(0, 1), (1, 1)], none⟩ := ⟨by kernel_rfl, by kernel_rfl, by kernel_rfl, by kernel_rfl⟩ -- struct { tris map[api.Tri]bool; left map[mesh.edge]api.Tri }
theorem ti48 : OkTI Try.prog 48 ⟨true, 2, 16, .agg #[.map none, .map none], [(0, 1), (1, 1)], none⟩ := ⟨by kernel_rfl, by kernel_rfl, by kernel_rfl, by kernel_rfl⟩ -- mesh.Mesh
theorem ti50 : OkTI Try.prog 50 ⟨false, 1, 8, .map none, [], none⟩ := ⟨by kernel_rfl, by kernel_rfl, by kernel_rfl, by kernel_rfl⟩ -- map[hectareref1.Edge]api.Tri
theorem ti51 : OkTI Try.prog 51 ⟨true, 1, 8, .agg #[.map none], [(0, 1)], none⟩ := ⟨by kernel_rfl, by kernel_rfl, by kernel_rfl, by kernel_rfl⟩ -- struct { E map[hectareref1.Edge]api.Tri }
theorem ti52 : OkTI Try.prog 52 ⟨true, 1, 8, .agg #[.map none], [(0, 1)], none⟩ := ⟨by kernel_rfl, by kernel_rfl, by kernel_rfl, by kernel_rfl⟩ -- hectareref1.Mesh
theorem ti57 : OkTI Try.prog 57 ⟨true, 4, 32, .agg #[.int .i64 0, .int .i64 0, .int .i64 0, .int .i64 0], [(0, 2), (2, 2)], none⟩ := ⟨by kernel_rfl, by kernel_rfl, by kernel_rfl, by kernel_rfl⟩ -- struct { a api.Point; b api.Point }
theorem ti58 : OkTI Try.prog 58 ⟨true, 4, 32, .agg #[.int .i64 0, .int .i64 0, .int .i64 0, .int .i64 0], [(0, 2), (2, 2)], none⟩ := ⟨by kernel_rfl, by kernel_rfl, by kernel_rfl, by kernel_rfl⟩ -- mesh.edge
theorem ti59 : OkTI Try.prog 59 ⟨true, 4, 32, .agg #[.int .i64 0, .int .i64 0, .int .i64 0, .int .i64 0], [(0, 2), (2, 2)], none⟩ := ⟨by kernel_rfl, by kernel_rfl, by kernel_rfl, by kernel_rfl⟩ -- struct { A api.Point; B api.Point }
theorem ti60 : OkTI Try.prog 60 ⟨true, 4, 32, .agg #[.int .i64 0, .int .i64 0, .int .i64 0, .int .i64 0], [(0, 2), (2, 2)], none⟩ := ⟨by kernel_rfl, by kernel_rfl, by kernel_rfl, by kernel_rfl⟩ -- hectareref1.Edge
theorem ti71 : OkTI Try.prog 71 ⟨false, 1, 8, .map none, [], none⟩ := ⟨by kernel_rfl, by kernel_rfl, by kernel_rfl, by kernel_rfl⟩ -- map[api.Point]bool
theorem ti77 : OkTI Try.prog 77 ⟨false, 1, 8, .map none, [], none⟩ := ⟨by kernel_rfl, by kernel_rfl, by kernel_rfl, by kernel_rfl⟩ -- map[mesh.edge]bool
theorem ti78 : OkTI Try.prog 78 ⟨false, 1, 24, .slice none 0 0, [], some 58⟩ := ⟨by kernel_rfl, by kernel_rfl, by kernel_rfl, by kernel_rfl⟩ -- []mesh.edge
theorem ti80 : OkTI Try.prog 80 ⟨true, 12, 96, .agg #[.int .i64 0, .int .i64 0, .int .i64 0, .int .i64 0, .int .i64 0, .int .i64 0, .int .i64 0, .int .i64 0, .int .i64 0, .int .i64 0, .int .i64 0, .int .i64 0], [], none⟩ := ⟨by kernel_rfl, by kernel_rfl, by kernel_rfl, by kernel_rfl⟩ -- [3]hectareref1.Edge
theorem ti84 : OkTI Try.prog 84 ⟨true, 6, 48, .agg #[.int .i64 0, .int .i64 0, .int .i64 0, .int .i64 0, .int .i64 0, .int .i64 0], [], none⟩ := ⟨by kernel_rfl, by kernel_rfl, by kernel_rfl, by kernel_rfl⟩ -- [3]api.Point
theorem ti96 : OkTI Try.prog 96 ⟨false, 1, 8, .int .u64 0, [], none⟩ := ⟨by kernel_rfl, by kernel_rfl, by kernel_rfl, by kernel_rfl⟩ -- uint
theorem ti97 : OkTI Try.prog 97 ⟨false, 1, 24, .slice none 0 0, [], some 3⟩ := ⟨by kernel_rfl, by kernel_rfl, by kernel_rfl, by kernel_rfl⟩ -- []int
theorem ti103 : OkTI Try.prog 103 ⟨false, 1, 8, .int .i64 0, [], none⟩ := ⟨by kernel_rfl, by kernel_rfl, by kernel_rfl, by kernel_rfl⟩ -- slices.sortedHint
theorem ti111 : OkTI Try.prog 111 ⟨false, 1, 4, .int .u32 0, [], none⟩ := ⟨by kernel_rfl, by kernel_rfl, by kernel_rfl, by kernel_rfl⟩ -- uint32
theorem ti113 : OkTI Try.prog 113 ⟨false, 1, 8, .int .u64 0, [], none⟩ := ⟨by kernel_rfl, by kernel_rfl, by kernel_rfl, by kernel_rfl⟩ -- uint64
theorem ti119 : OkTI Try.prog 119 ⟨false, 1, 8, .int .u64 0, [], none⟩ := ⟨by kernel_rfl, by kernel_rfl, by kernel_rfl, by kernel_rfl⟩ -- slices.xorshift
theorem ti123 : OkTI Try.prog 123 ⟨false, 1, 8, .pointer none, [], none⟩ := ⟨by kernel_rfl, by kernel_rfl, by kernel_rfl, by kernel_rfl⟩ -- *int
theorem ti127 : OkTI Try.prog 127 ⟨false, 1, 8, .pointer none, [], none⟩ := ⟨by kernel_rfl, by kernel_rfl, by kernel_rfl, by kernel_rfl⟩ -- *slices.xorshift
theorem ti140 : OkTI Try.prog 140 ⟨false, 1, 8, .pointer none, [], none⟩ := ⟨by kernel_rfl, by kernel_rfl, by kernel_rfl, by kernel_rfl⟩ -- *uint8
theorem Tab.Ok.nil {P : Program} : V.Tab.Ok P [] := fun _ _ h => by cases h
theorem Tab.Ok.cons {P : Program} {T : Nat} {ti : TI} {r : V.Tab} (h : OkTI P T ti) (k : V.Tab.Ok P r) : V.Tab.Ok P ((T, ti) :: r) := by
  intro T' ti' e
  unfold lk at e
  split at e
  · rename_i q; cases e; subst q; exact h
  · exact k T' ti' e
theorem tok : V.Tab.Ok Try.prog tab := Tab.Ok.cons ti2 (Tab.Ok.cons ti3 (Tab.Ok.cons ti4 (Tab.Ok.cons ti5 (Tab.Ok.cons ti9 (Tab.Ok.cons ti12 (Tab.Ok.cons ti13 (Tab.Ok.cons ti21 (Tab.Ok.cons ti22 (Tab.Ok.cons ti23 (Tab.Ok.cons ti24 (Tab.Ok.cons ti25 (Tab.Ok.cons ti26 (Tab.Ok.cons ti28 (Tab.Ok.cons ti29 (Tab.Ok.cons ti32 (Tab.Ok.cons ti43 (Tab.Ok.cons ti45 (Tab.Ok.cons ti46 (Tab.Ok.cons ti47 (Tab.Ok.cons ti48 (Tab.Ok.cons ti50 (Tab.Ok.cons ti51 (Tab.Ok.cons ti52 (Tab.Ok.cons ti57 (Tab.Ok.cons ti58 (Tab.Ok.cons ti59 (Tab.Ok.cons ti60 (Tab.Ok.cons ti71 (Tab.Ok.cons ti77 (Tab.Ok.cons ti78 (Tab.Ok.cons ti80 (Tab.Ok.cons ti84 (Tab.Ok.cons ti96 (Tab.Ok.cons ti97 (Tab.Ok.cons ti103 (Tab.Ok.cons ti111 (Tab.Ok.cons ti113 (Tab.Ok.cons ti119 (Tab.Ok.cons ti123 (Tab.Ok.cons ti127 (Tab.Ok.cons ti140 (Tab.Ok.nil))))))))))))))))))))))))))))))))))))))))))
def ptrs : List Nat := [28, 32, 123, 127, 140]
theorem ptr28 : Try.prog.underlying 28 = some (.pointer (Try.prog.pointee 28)) := by kernel_rfl
theorem ptr32 : Try.prog.underlying 32 = some (.pointer (Try.prog.pointee 32)) := by kernel_rfl
theorem ptr123 : Try.prog.underlying 123 = some (.pointer (Try.prog.pointee 123)) := by kernel_rfl
theorem ptr127 : Try.prog.underlying 127 = some (.pointer (Try.prog.pointee 127)) := by kernel_rfl
theorem ptr140 : Try.prog.underlying 140 = some (.pointer (Try.prog.pointee 140)) := by kernel_rfl
theorem ptrOk {T : Nat} (h : ptrs.contains T = true) : Try.prog.underlying T = some (.pointer (Try.prog.pointee T)) := by
  have : T ∈ ptrs := by simpa using h
  simp only [ptrs, List.mem_cons, List.not_mem_nil, or_false] at this
  rcases this with rfl | rfl | rfl | rfl | rfl
  · exact ptr28
  · exact ptr32
  · exact ptr123
  · exact ptr127
  · exact ptr140
def maps : List (Nat × (Nat × Nat)) := [(45, (26, 4)), (46, (58, 26)), (50, (60, 26)), (71, (24, 4)), (77, (58, 4))]
theorem mapOk {T k e : Nat} (h : lk maps T = some (k, e)) : Try.prog.underlying T = some (.map k e) := by
  simp only [maps, lk] at h
  split at h
  · rename_i q; cases h; subst q; kernel_rfl
  split at h
  · rename_i q; cases h; subst q; kernel_rfl
  split at h
  · rename_i q; cases h; subst q; kernel_rfl
  split at h
  · rename_i q; cases h; subst q; kernel_rfl
  split at h
  · rename_i q; cases h; subst q; kernel_rfl
  cases h
def arrs : List (Nat × (Nat × Nat)) := [(80, (3, 60)), (84, (3, 24))]
theorem arrOk {T k e : Nat} (h : lk arrs T = some (k, e)) : Try.prog.underlying T = some (.array k e) := by
  simp only [arrs, lk] at h
  split at h
  · rename_i q; cases h; subst q; kernel_rfl
  split at h
  · rename_i q; cases h; subst q; kernel_rfl
  cases h
theorem fok3 : FnOk Try.prog 3 := enters_of Try.func3 (by kernel_rfl) rfl
theorem fok4 : FnOk Try.prog 4 := enters_of Try.func4 (by kernel_rfl) rfl
theorem fok5 : FnOk Try.prog 5 := enters_of Try.func5 (by kernel_rfl) rfl
theorem fok6 : FnOk Try.prog 6 := enters_of Try.func6 (by kernel_rfl) rfl
theorem fok7 : FnOk Try.prog 7 := enters_of Try.func7 (by kernel_rfl) rfl
theorem fok8 : FnOk Try.prog 8 := enters_of Try.func8 (by kernel_rfl) rfl
theorem fok9 : FnOk Try.prog 9 := enters_of Try.func9 (by kernel_rfl) rfl
theorem fok10 : FnOk Try.prog 10 := enters_of Try.func10 (by kernel_rfl) rfl
theorem fok11 : FnOk Try.prog 11 := enters_of Try.func11 (by kernel_rfl) rfl
theorem fok12 : FnOk Try.prog 12 := enters_of Try.func12 (by kernel_rfl) rfl
theorem fok13 : FnOk Try.prog 13 := enters_of Try.func13 (by kernel_rfl) rfl
theorem fok14 : FnOk Try.prog 14 := enters_of Try.func14 (by kernel_rfl) rfl
theorem fok15 : FnOk Try.prog 15 := enters_of Try.func15 (by kernel_rfl) rfl
theorem fok16 : FnOk Try.prog 16 := enters_of Try.func16 (by kernel_rfl) rfl
theorem fok17 : FnOk Try.prog 17 := enters_of Try.func17 (by kernel_rfl) rfl
theorem fok18 : FnOk Try.prog 18 := enters_of Try.func18 (by kernel_rfl) rfl
theorem fok19 : FnOk Try.prog 19 := enters_of Try.func19 (by kernel_rfl) rfl
theorem fok20 : FnOk Try.prog 20 := enters_of Try.func20 (by kernel_rfl) rfl
theorem fok21 : FnOk Try.prog 21 := enters_of Try.func21 (by kernel_rfl) rfl
theorem fok22 : FnOk Try.prog 22 := enters_of Try.func22 (by kernel_rfl) rfl
theorem fok23 : FnOk Try.prog 23 := enters_of Try.func23 (by kernel_rfl) rfl
theorem fok24 : FnOk Try.prog 24 := enters_of Try.func24 (by kernel_rfl) rfl
theorem fok25 : FnOk Try.prog 25 := enters_of Try.func25 (by kernel_rfl) rfl
theorem fok26 : FnOk Try.prog 26 := enters_of Try.func26 (by kernel_rfl) rfl
theorem fok27 : FnOk Try.prog 27 := enters_of Try.func27 (by kernel_rfl) rfl
theorem fok28 : FnOk Try.prog 28 := enters_of Try.func28 (by kernel_rfl) rfl
theorem fok29 : FnOk Try.prog 29 := enters_of Try.func29 (by kernel_rfl) rfl
theorem fok30 : FnOk Try.prog 30 := enters_of Try.func30 (by kernel_rfl) rfl
theorem fok31 : FnOk Try.prog 31 := enters_of Try.func31 (by kernel_rfl) rfl
theorem fok32 : FnOk Try.prog 32 := enters_of Try.func32 (by kernel_rfl) rfl
theorem fok33 : FnOk Try.prog 33 := enters_of Try.func33 (by kernel_rfl) rfl
theorem fok34 : FnOk Try.prog 34 := enters_of Try.func34 (by kernel_rfl) rfl
theorem fok35 : FnOk Try.prog 35 := enters_of Try.func35 (by kernel_rfl) rfl
theorem fok36 : FnOk Try.prog 36 := enters_of Try.func36 (by kernel_rfl) rfl
theorem fok37 : FnOk Try.prog 37 := enters_of Try.func37 (by kernel_rfl) rfl
theorem fok38 : FnOk Try.prog 38 := enters_of Try.func38 (by kernel_rfl) rfl
theorem fok39 : FnOk Try.prog 39 := enters_of Try.func39 (by kernel_rfl) rfl
theorem fok40 : FnOk Try.prog 40 := enters_of Try.func40 (by kernel_rfl) rfl
theorem fok41 : FnOk Try.prog 41 := enters_of Try.func41 (by kernel_rfl) rfl
theorem fok42 : FnOk Try.prog 42 := enters_of Try.func42 (by kernel_rfl) rfl
theorem fok43 : FnOk Try.prog 43 := enters_of Try.func43 (by kernel_rfl) rfl
theorem fok44 : FnOk Try.prog 44 := enters_of Try.func44 (by kernel_rfl) rfl
theorem fok45 : FnOk Try.prog 45 := enters_of Try.func45 (by kernel_rfl) rfl
theorem fok46 : FnOk Try.prog 46 := enters_of Try.func46 (by kernel_rfl) rfl
theorem fok47 : FnOk Try.prog 47 := enters_of Try.func47 (by kernel_rfl) rfl
theorem fok48 : FnOk Try.prog 48 := enters_of Try.func48 (by kernel_rfl) rfl
theorem fok49 : FnOk Try.prog 49 := enters_of Try.func49 (by kernel_rfl) rfl
theorem fok50 : FnOk Try.prog 50 := enters_of Try.func50 (by kernel_rfl) rfl
theorem fok51 : FnOk Try.prog 51 := enters_of Try.func51 (by kernel_rfl) rfl
theorem fok52 : FnOk Try.prog 52 := enters_of Try.func52 (by kernel_rfl) rfl
theorem fok53 : FnOk Try.prog 53 := enters_of Try.func53 (by kernel_rfl) rfl
theorem fok54 : FnOk Try.prog 54 := enters_of Try.func54 (by kernel_rfl) rfl
theorem fok55 : FnOk Try.prog 55 := enters_of Try.func55 (by kernel_rfl) rfl
theorem fok56 : FnOk Try.prog 56 := enters_of Try.func56 (by kernel_rfl) rfl
theorem fok57 : FnOk Try.prog 57 := enters_of Try.func57 (by kernel_rfl) rfl
theorem fok58 : FnOk Try.prog 58 := enters_of Try.func58 (by kernel_rfl) rfl
theorem fok59 : FnOk Try.prog 59 := enters_of Try.func59 (by kernel_rfl) rfl
theorem fok60 : FnOk Try.prog 60 := enters_of Try.func60 (by kernel_rfl) rfl
theorem fok61 : FnOk Try.prog 61 := enters_of Try.func61 (by kernel_rfl) rfl
theorem fok62 : FnOk Try.prog 62 := enters_of Try.func62 (by kernel_rfl) rfl
theorem fok63 : FnOk Try.prog 63 := enters_of Try.func63 (by kernel_rfl) rfl
theorem fok64 : FnOk Try.prog 64 := enters_of Try.func64 (by kernel_rfl) rfl
theorem fok65 : FnOk Try.prog 65 := enters_of Try.func65 (by kernel_rfl) rfl
theorem fok66 : FnOk Try.prog 66 := enters_of Try.func66 (by kernel_rfl) rfl
theorem fok67 : FnOk Try.prog 67 := enters_of Try.func67 (by kernel_rfl) rfl
theorem fok68 : FnOk Try.prog 68 := enters_of Try.func68 (by kernel_rfl) rfl
theorem fok69 : FnOk Try.prog 69 := enters_of Try.func69 (by kernel_rfl) rfl
theorem fok70 : FnOk Try.prog 70 := enters_of Try.func70 (by kernel_rfl) rfl
theorem fok71 : FnOk Try.prog 71 := enters_of Try.func71 (by kernel_rfl) rfl
theorem fok72 : FnOk Try.prog 72 := enters_of Try.func72 (by kernel_rfl) rfl
theorem fok73 : FnOk Try.prog 73 := enters_of Try.func73 (by kernel_rfl) rfl
theorem fok74 : FnOk Try.prog 74 := enters_of Try.func74 (by kernel_rfl) rfl
theorem fok75 : FnOk Try.prog 75 := enters_of Try.func75 (by kernel_rfl) rfl
theorem fok76 : FnOk Try.prog 76 := enters_of Try.func76 (by kernel_rfl) rfl
theorem fok77 : FnOk Try.prog 77 := enters_of Try.func77 (by kernel_rfl) rfl
theorem fok78 : FnOk Try.prog 78 := enters_of Try.func78 (by kernel_rfl) rfl
theorem fok79 : FnOk Try.prog 79 := enters_of Try.func79 (by kernel_rfl) rfl
theorem fok80 : FnOk Try.prog 80 := enters_of Try.func80 (by kernel_rfl) rfl
theorem fok81 : FnOk Try.prog 81 := enters_of Try.func81 (by kernel_rfl) rfl
theorem fok82 : FnOk Try.prog 82 := enters_of Try.func82 (by kernel_rfl) rfl
theorem fok83 : FnOk Try.prog 83 := enters_of Try.func83 (by kernel_rfl) rfl
theorem fok84 : FnOk Try.prog 84 := enters_of Try.func84 (by kernel_rfl) rfl
theorem fok86 : FnOk Try.prog 86 := enters_of Try.func86 (by kernel_rfl) rfl
theorem fok87 : FnOk Try.prog 87 := enters_of Try.func87 (by kernel_rfl) rfl
theorem fok88 : FnOk Try.prog 88 := enters_of Try.func88 (by kernel_rfl) rfl
theorem fok89 : FnOk Try.prog 89 := enters_of Try.func89 (by kernel_rfl) rfl
theorem fok90 : FnOk Try.prog 90 := enters_of Try.func90 (by kernel_rfl) rfl
theorem fok91 : FnOk Try.prog 91 := enters_of Try.func91 (by kernel_rfl) rfl
theorem fok92 : FnOk Try.prog 92 := enters_of Try.func92 (by kernel_rfl) rfl
end Go.Proofs.Ytdkbmefidmljjaa
