/- What is used of the program's types. Conditions: none. -/
import Derived.Test.YthpbgolnlmjjdaaProg
import Derived.Test.YthpbgolnlmjjdaaVB
import Derived.KernelRfl
namespace Go.Proofs.Ythpbgolnlmjjdaa
open V
def tab : Tab := [
  (2, ⟨false, 1, 8, .int .i64 0, [], none⟩),
  (3, ⟨false, 1, 8, .int .i64 0, [], none⟩),
  (4, ⟨false, 1, 1, .bool false, [], none⟩),
  (5, ⟨false, 1, 1, .int .u8 0, [], none⟩),
  (9, ⟨false, 1, 16, .string ⟨#[]⟩, [], none⟩),
  (12, ⟨false, 1, 8, .int .u64 0, [], none⟩),
  (13, ⟨true, 2, 24, .agg #[.string ⟨#[]⟩, .int .u64 0], [(0, 1), (1, 1)], none⟩),
  (21, ⟨false, 1, 4, .int .i32 0, [], none⟩),
  (22, ⟨false, 1, 24, .slice none 0 0, [], some 32⟩),
  (24, ⟨false, 1, 8, .pointer none, [], none⟩),
  (25, ⟨false, 1, 8, .int .i64 0, [], none⟩),
  (29, ⟨true, 2, 16, .agg #[.int .i64 0, .int .i64 0], [(0, 1), (1, 1)], none⟩),
  (30, ⟨true, 2, 16, .agg #[.int .i64 0, .int .i64 0], [(0, 1), (1, 1)], none⟩),
  (31, ⟨true, 5, 40, .agg #[.int .i64 0, .int .i64 0, .int .i64 0, .int .i64 0, .int .i64 0], [(0, 2), (2, 2), (4, 1)], none⟩),
  (32, ⟨true, 5, 40, .agg #[.int .i64 0, .int .i64 0, .int .i64 0, .int .i64 0, .int .i64 0], [(0, 2), (2, 2), (4, 1)], none⟩),
  (47, ⟨false, 1, 24, .slice none 0 0, [], some 52⟩),
  (48, ⟨false, 1, 8, .pointer none, [], none⟩),
  (51, ⟨true, 8, 64, .agg #[.int .i64 0, .int .i64 0, .int .i64 0, .int .i64 0, .int .i64 0, .int .i64 0, .int .i64 0, .int .i64 0], [(0, 1), (1, 5), (6, 2)], none⟩),
  (52, ⟨true, 8, 64, .agg #[.int .i64 0, .int .i64 0, .int .i64 0, .int .i64 0, .int .i64 0, .int .i64 0, .int .i64 0, .int .i64 0], [(0, 1), (1, 5), (6, 2)], none⟩),
  (54, ⟨true, 1, 24, .agg #[.slice none 0 0], [(0, 1)], none⟩),
  (55, ⟨true, 1, 24, .agg #[.slice none 0 0], [(0, 1)], none⟩),
  (58, ⟨false, 1, 8, .map none, [], none⟩),
  (59, ⟨true, 1, 8, .agg #[.map none], [(0, 1)], none⟩),
  (60, ⟨true, 1, 8, .agg #[.map none], [(0, 1)], none⟩),
  (61, ⟨true, 4, 32, .agg #[.int .i64 0, .int .i64 0, .int .i64 0, .int .i64 0], [(0, 2), (2, 2)], none⟩),
  (62, ⟨true, 4, 32, .agg #[.int .i64 0, .int .i64 0, .int .i64 0, .int .i64 0], [(0, 2), (2, 2)], none⟩),
  (78, ⟨false, 1, 24, .slice none 0 0, [], some 3⟩),
  (80, ⟨false, 1, 24, .slice none 0 0, [], some 30⟩),
  (85, ⟨false, 1, 8, .int .u64 0, [], none⟩),
  (87, ⟨false, 1, 8, .int .i64 0, [], none⟩),
  (95, ⟨false, 1, 4, .int .u32 0, [], none⟩),
  (97, ⟨false, 1, 8, .int .u64 0, [], none⟩),
  (98, ⟨false, 1, 8, .int .u64 0, [], none⟩),
  (102, ⟨false, 1, 8, .pointer none, [], none⟩),
  (104, ⟨false, 1, 8, .pointer none, [], none⟩),
  (116, ⟨false, 1, 8, .pointer none, [], none⟩)]
theorem ti2 : OkTI Try.prog 2 ⟨false, 1, 8, .int .i64 0, [], none⟩ := ⟨by kernel_rfl, by kernel_rfl, by kernel_rfl, by kernel_rfl⟩ -- int64
theorem ti3 : OkTI Try.prog 3 ⟨false, 1, 8, .int .i64 0, [], none⟩ := ⟨by kernel_rfl, by kernel_rfl, by kernel_rfl, by kernel_rfl⟩ -- int
theorem ti4 : OkTI Try.prog 4 ⟨false, 1, 1, .bool false, [], none⟩ := ⟨by kernel_rfl, by kernel_rfl, by kernel_rfl, by kernel_rfl⟩ -- bool
theorem ti5 : OkTI Try.prog 5 ⟨false, 1, 1, .int .u8 0, [], none⟩ := ⟨by kernel_rfl, by kernel_rfl, by kernel_rfl, by kernel_rfl⟩ -- uint8
theorem ti9 : OkTI Try.prog 9 ⟨false, 1, 16, .string ⟨#[]⟩, [], none⟩ := ⟨by kernel_rfl, by kernel_rfl, by kernel_rfl, by kernel_rfl⟩ -- string
theorem ti12 : OkTI Try.prog 12 ⟨false, 1, 8, .int .u64 0, [], none⟩ := ⟨by kernel_rfl, by kernel_rfl, by kernel_rfl, by kernel_rfl⟩ -- uintptr
theorem ti13 : OkTI Try.prog 13 ⟨true, 2, 24, .agg #[.string ⟨#[]⟩, .int .u64 0], [(0, 1), (1, 1)], none⟩ := ⟨by kernel_rfl, by kernel_rfl, by kernel_rfl, by kernel_rfl⟩ -- struct { msg string; addr uintptr }
theorem ti21 : OkTI Try.prog 21 ⟨false, 1, 4, .int .i32 0, [], none⟩ := ⟨by kernel_rfl, by kernel_rfl, by kernel_rfl, by kernel_rfl⟩ -- int32
theorem ti22 : OkTI Try.prog 22 ⟨false, 1, 24, .slice none 0 0, [], some 32⟩ := ⟨by kernel_rfl, by kernel_rfl, by kernel_rfl, by kernel_rfl⟩ -- []api.Wall
theorem ti24 : OkTI Try.prog 24 ⟨false, 1, 8, .pointer none, [], none⟩ := ⟨by kernel_rfl, by kernel_rfl, by kernel_rfl, by kernel_rfl⟩ -- *walls.Set
theorem ti25 : OkTI Try.prog 25 ⟨false, 1, 8, .int .i64 0, [], none⟩ := ⟨by kernel_rfl, by kernel_rfl, by kernel_rfl, by kernel_rfl⟩ -- api.Errno
theorem ti29 : OkTI Try.prog 29 ⟨true, 2, 16, .agg #[.int .i64 0, .int .i64 0], [(0, 1), (1, 1)], none⟩ := ⟨by kernel_rfl, by kernel_rfl, by kernel_rfl, by kernel_rfl⟩ -- struct { X int; Y int }
theorem ti30 : OkTI Try.prog 30 ⟨true, 2, 16, .agg #[.int .i64 0, .int .i64 0], [(0, 1), (1, 1)], none⟩ := ⟨by kernel_rfl, by kernel_rfl, by kernel_rfl, by kernel_rfl⟩ -- api.Point
theorem ti31 : OkTI Try.prog 31 ⟨true, 5, 40, .agg #[.int .i64 0, .int .i64 0, .int .i64 0, .int .i64 0, .int .i64 0], [(0, 2), (2, 2), (4, 1)], none⟩ := ⟨by kernel_rfl, by kernel_rfl, by kernel_rfl, by kernel_rfl⟩ -- struct { A api.Point; B api.Point; Kind int }
theorem ti32 : OkTI Try.prog 32 ⟨true, 5, 40, .agg #[.int .i64 0, .int .i64 0, .int .i64 0, .int .i64 0, .int .i64 0], [(0, 2), (2, 2), (4, 1)], none⟩ := ⟨by kernel_rfl, by kernel_rfl, by kernel_rfl, by kernel_rfl⟩ -- api.Wall
theorem ti47 : OkTI Try.prog 47 ⟨false, 1, 24, .slice none 0 0, [], some 52⟩ := ⟨by kernel_rfl, by kernel_rfl, by kernel_rfl, by kernel_rfl⟩ -- []hectarelaw7.Act
theorem ti48 : OkTI Try.prog 48 ⟨false, 1, 8, .pointer none, [], none⟩ := ⟨by kernel_rfl, by kernel_rfl, by kernel_rfl, by kernel_rfl⟩ -- *hectareref1.Walls
theorem ti51 : OkTI Try.prog 51 ⟨true, 8, 64, .agg #[.int .i64 0, .int .i64 0, .int .i64 0, .int .i64 0, .int .i64 0, .int .i64 0, .int .i64 0, .int .i64 0], [(0, 1), (1, 5), (6, 2)], none⟩ := ⟨by kernel_rfl, by kernel_rfl, by kernel_rfl, by kernel_rfl⟩ -- struct { Kind int; W api.Wall; P api.Point }
theorem ti52 : OkTI Try.prog 52 ⟨true, 8, 64, .agg #[.int .i64 0, .int .i64 0, .int .i64 0, .int .i64 0, .int .i64 0, .int .i64 0, .int .i64 0, .int .i64 0], [(0, 1), (1, 5), (6, 2)], none⟩ := ⟨by kernel_rfl, by kernel_rfl, by kernel_rfl, by kernel_rfl⟩ -- hectarelaw7.Act
theorem ti54 : OkTI Try.prog 54 ⟨true, 1, 24, .agg #[.slice none 0 0], [(0, 1)], none⟩ := ⟨by kernel_rfl, by kernel_rfl, by kernel_rfl, by kernel_rfl⟩ -- struct { L []api.Wall }
theorem ti55 : OkTI Try.prog 55 ⟨true, 1, 24, .agg #[.slice none 0 0], [(0, 1)], none⟩ := ⟨by kernel_rfl, by kernel_rfl, by kernel_rfl, by kernel_rfl⟩ -- hectareref1.Walls
theorem ti58 : OkTI Try.prog 58 ⟨false, 1, 8, .map none, [], none⟩ := ⟨by kernel_rfl, by kernel_rfl, by kernel_rfl, by kernel_rfl⟩ -- map[walls.ends]int
theorem ti59 : OkTI Try.prog 59 ⟨true, 1, 8, .agg #[.map none], [(0, 1)], none⟩ := ⟨by kernel_rfl, by kernel_rfl, by kernel_rfl, by kernel_rfl⟩ -- struct { kinds map[walls.ends]int }
theorem ti60 : OkTI Try.prog 60 ⟨true, 1, 8, .agg #[.map none], [(0, 1)], none⟩ := ⟨by kernel_rfl, by kernel_rfl, by kernel_rfl, by kernel_rfl⟩ -- walls.Set
theorem ti61 : OkTI Try.prog 61 ⟨true, 4, 32, .agg #[.int .i64 0, .int .i64 0, .int .i64 0, .int .i64 0], [(0, 2), (2, 2)], none⟩ := ⟨by kernel_rfl, by kernel_rfl, by kernel_rfl, by kernel_rfl⟩ -- struct { a api.Point; b api.Point }
theorem ti62 : OkTI Try.prog 62 ⟨true, 4, 32, .agg #[.int .i64 0, .int .i64 0, .int .i64 0, .int .i64 0], [(0, 2), (2, 2)], none⟩ := ⟨by kernel_rfl, by kernel_rfl, by kernel_rfl, by kernel_rfl⟩ -- walls.ends
theorem ti78 : OkTI Try.prog 78 ⟨false, 1, 24, .slice none 0 0, [], some 3⟩ := ⟨by kernel_rfl, by kernel_rfl, by kernel_rfl, by kernel_rfl⟩ -- []int
theorem ti80 : OkTI Try.prog 80 ⟨false, 1, 24, .slice none 0 0, [], some 30⟩ := ⟨by kernel_rfl, by kernel_rfl, by kernel_rfl, by kernel_rfl⟩ -- []api.Point
theorem ti85 : OkTI Try.prog 85 ⟨false, 1, 8, .int .u64 0, [], none⟩ := ⟨by kernel_rfl, by kernel_rfl, by kernel_rfl, by kernel_rfl⟩ -- uint
theorem ti87 : OkTI Try.prog 87 ⟨false, 1, 8, .int .i64 0, [], none⟩ := ⟨by kernel_rfl, by kernel_rfl, by kernel_rfl, by kernel_rfl⟩ -- slices.sortedHint
theorem ti95 : OkTI Try.prog 95 ⟨false, 1, 4, .int .u32 0, [], none⟩ := ⟨by kernel_rfl, by kernel_rfl, by kernel_rfl, by kernel_rfl⟩ -- uint32
theorem ti97 : OkTI Try.prog 97 ⟨false, 1, 8, .int .u64 0, [], none⟩ := ⟨by kernel_rfl, by kernel_rfl, by kernel_rfl, by kernel_rfl⟩ -- uint64
theorem ti98 : OkTI Try.prog 98 ⟨false, 1, 8, .int .u64 0, [], none⟩ := ⟨by kernel_rfl, by kernel_rfl, by kernel_rfl, by kernel_rfl⟩ -- slices.xorshift
theorem ti102 : OkTI Try.prog 102 ⟨false, 1, 8, .pointer none, [], none⟩ := ⟨by kernel_rfl, by kernel_rfl, by kernel_rfl, by kernel_rfl⟩ -- *int
theorem ti104 : OkTI Try.prog 104 ⟨false, 1, 8, .pointer none, [], none⟩ := ⟨by kernel_rfl, by kernel_rfl, by kernel_rfl, by kernel_rfl⟩ -- *slices.xorshift
theorem ti116 : OkTI Try.prog 116 ⟨false, 1, 8, .pointer none, [], none⟩ := ⟨by kernel_rfl, by kernel_rfl, by kernel_rfl, by kernel_rfl⟩ -- *uint8
theorem Tab.Ok.nil {P : Program} : V.Tab.Ok P [] := fun _ _ h => by cases h
theorem Tab.Ok.cons {P : Program} {T : Nat} {ti : TI} {r : V.Tab} (h : OkTI P T ti) (k : V.Tab.Ok P r) : V.Tab.Ok P ((T, ti) :: r) := by
  intro T' ti' e
  unfold lk at e
  split at e
  · rename_i q; cases e; subst q; exact h
  · exact k T' ti' e
theorem tok : V.Tab.Ok Try.prog tab := Tab.Ok.cons ti2 (Tab.Ok.cons ti3 (Tab.Ok.cons ti4 (Tab.Ok.cons ti5 (Tab.Ok.cons ti9 (Tab.Ok.cons ti12 (Tab.Ok.cons ti13 (Tab.Ok.cons ti21 (Tab.Ok.cons ti22 (Tab.Ok.cons ti24 (Tab.Ok.cons ti25 (Tab.Ok.cons ti29 (Tab.Ok.cons ti30 (Tab.Ok.cons ti31 (Tab.Ok.cons ti32 (Tab.Ok.cons ti47 (Tab.Ok.cons ti48 (Tab.Ok.cons ti51 (Tab.Ok.cons ti52 (Tab.Ok.cons ti54 (Tab.Ok.cons ti55 (Tab.Ok.cons ti58 (Tab.Ok.cons ti59 (Tab.Ok.cons ti60 (Tab.Ok.cons ti61 (Tab.Ok.cons ti62 (Tab.Ok.cons ti78 (Tab.Ok.cons ti80 (Tab.Ok.cons ti85 (Tab.Ok.cons ti87 (Tab.Ok.cons ti95 (Tab.Ok.cons ti97 (Tab.Ok.cons ti98 (Tab.Ok.cons ti102 (Tab.Ok.cons ti104 (Tab.Ok.cons ti116 (Tab.Ok.nil))))))))))))))))))))))))))))))))))))
def ptrs : List Nat := [24, 48, 102, 104, 116]
theorem ptr24 : Try.prog.underlying 24 = some (.pointer (Try.prog.pointee 24)) := by kernel_rfl
theorem ptr48 : Try.prog.underlying 48 = some (.pointer (Try.prog.pointee 48)) := by kernel_rfl
theorem ptr102 : Try.prog.underlying 102 = some (.pointer (Try.prog.pointee 102)) := by kernel_rfl
theorem ptr104 : Try.prog.underlying 104 = some (.pointer (Try.prog.pointee 104)) := by kernel_rfl
theorem ptr116 : Try.prog.underlying 116 = some (.pointer (Try.prog.pointee 116)) := by kernel_rfl
theorem ptrOk {T : Nat} (h : ptrs.contains T = true) : Try.prog.underlying T = some (.pointer (Try.prog.pointee T)) := by
  have : T ∈ ptrs := by simpa using h
  simp only [ptrs, List.mem_cons, List.not_mem_nil, or_false] at this
  rcases this with rfl | rfl | rfl | rfl | rfl
  · exact ptr24
  · exact ptr48
  · exact ptr102
  · exact ptr104
  · exact ptr116
def maps : List (Nat × (Nat × Nat)) := [(58, (62, 3))]
theorem mapOk {T k e : Nat} (h : lk maps T = some (k, e)) : Try.prog.underlying T = some (.map k e) := by
  simp only [maps, lk] at h
  split at h
  · rename_i q; cases h; subst q; kernel_rfl
  cases h
def arrs : List (Nat × (Nat × Nat)) := []
theorem arrOk {T k e : Nat} (h : lk arrs T = some (k, e)) : Try.prog.underlying T = some (.array k e) := by
  simp only [arrs, lk] at h
  cases h
theorem fok3 : FnOk Try.prog 3 := enters_of Try.func3 (by kernel_rfl) rfl
theorem fok4 : FnOk Try.prog 4 := enters_of Try.func4 (by kernel_rfl) rfl
theorem fok5 : FnOk Try.prog 5 := enters_of Try.func5 (by kernel_rfl) rfl
theorem fok6 : FnOk Try.prog 6 := enters_of Try.func6 (by kernel_rfl) rfl
theorem fok7 : FnOk Try.prog 7 := enters_of Try.func7 (by kernel_rfl) rfl
theorem fok8 : FnOk Try.prog 8 := enters_of Try.func8 (by kernel_rfl) rfl
theorem fok9 : FnOk Try.prog 9 := enters_of Try.func9 (by kernel_rfl) rfl
theorem fok10 : FnOk Try.prog 10 := enters_of Try.func10 (by kernel_rfl) rfl
theorem fok11 : FnOk Try.prog 11 := enters_of Try.func11 (by kernel_rfl) rfl
theorem fok12 : FnOk Try.prog 12 := enters_of Try.func12 (by kernel_rfl) rfl
theorem fok13 : FnOk Try.prog 13 := enters_of Try.func13 (by kernel_rfl) rfl
theorem fok14 : FnOk Try.prog 14 := enters_of Try.func14 (by kernel_rfl) rfl
theorem fok15 : FnOk Try.prog 15 := enters_of Try.func15 (by kernel_rfl) rfl
theorem fok16 : FnOk Try.prog 16 := enters_of Try.func16 (by kernel_rfl) rfl
theorem fok17 : FnOk Try.prog 17 := enters_of Try.func17 (by kernel_rfl) rfl
theorem fok18 : FnOk Try.prog 18 := enters_of Try.func18 (by kernel_rfl) rfl
theorem fok19 : FnOk Try.prog 19 := enters_of Try.func19 (by kernel_rfl) rfl
theorem fok20 : FnOk Try.prog 20 := enters_of Try.func20 (by kernel_rfl) rfl
theorem fok21 : FnOk Try.prog 21 := enters_of Try.func21 (by kernel_rfl) rfl
theorem fok22 : FnOk Try.prog 22 := enters_of Try.func22 (by kernel_rfl) rfl
theorem fok23 : FnOk Try.prog 23 := enters_of Try.func23 (by kernel_rfl) rfl
theorem fok24 : FnOk Try.prog 24 := enters_of Try.func24 (by kernel_rfl) rfl
theorem fok25 : FnOk Try.prog 25 := enters_of Try.func25 (by kernel_rfl) rfl
theorem fok26 : FnOk Try.prog 26 := enters_of Try.func26 (by kernel_rfl) rfl
theorem fok27 : FnOk Try.prog 27 := enters_of Try.func27 (by kernel_rfl) rfl
theorem fok28 : FnOk Try.prog 28 := enters_of Try.func28 (by kernel_rfl) rfl
theorem fok29 : FnOk Try.prog 29 := enters_of Try.func29 (by kernel_rfl) rfl
theorem fok30 : FnOk Try.prog 30 := enters_of Try.func30 (by kernel_rfl) rfl
theorem fok31 : FnOk Try.prog 31 := enters_of Try.func31 (by kernel_rfl) rfl
theorem fok32 : FnOk Try.prog 32 := enters_of Try.func32 (by kernel_rfl) rfl
theorem fok33 : FnOk Try.prog 33 := enters_of Try.func33 (by kernel_rfl) rfl
theorem fok34 : FnOk Try.prog 34 := enters_of Try.func34 (by kernel_rfl) rfl
theorem fok35 : FnOk Try.prog 35 := enters_of Try.func35 (by kernel_rfl) rfl
theorem fok36 : FnOk Try.prog 36 := enters_of Try.func36 (by kernel_rfl) rfl
theorem fok37 : FnOk Try.prog 37 := enters_of Try.func37 (by kernel_rfl) rfl
theorem fok38 : FnOk Try.prog 38 := enters_of Try.func38 (by kernel_rfl) rfl
theorem fok39 : FnOk Try.prog 39 := enters_of Try.func39 (by kernel_rfl) rfl
theorem fok40 : FnOk Try.prog 40 := enters_of Try.func40 (by kernel_rfl) rfl
theorem fok41 : FnOk Try.prog 41 := enters_of Try.func41 (by kernel_rfl) rfl
theorem fok42 : FnOk Try.prog 42 := enters_of Try.func42 (by kernel_rfl) rfl
theorem fok43 : FnOk Try.prog 43 := enters_of Try.func43 (by kernel_rfl) rfl
theorem fok44 : FnOk Try.prog 44 := enters_of Try.func44 (by kernel_rfl) rfl
theorem fok45 : FnOk Try.prog 45 := enters_of Try.func45 (by kernel_rfl) rfl
theorem fok46 : FnOk Try.prog 46 := enters_of Try.func46 (by kernel_rfl) rfl
theorem fok47 : FnOk Try.prog 47 := enters_of Try.func47 (by kernel_rfl) rfl
theorem fok48 : FnOk Try.prog 48 := enters_of Try.func48 (by kernel_rfl) rfl
theorem fok49 : FnOk Try.prog 49 := enters_of Try.func49 (by kernel_rfl) rfl
theorem fok50 : FnOk Try.prog 50 := enters_of Try.func50 (by kernel_rfl) rfl
theorem fok51 : FnOk Try.prog 51 := enters_of Try.func51 (by kernel_rfl) rfl
theorem fok52 : FnOk Try.prog 52 := enters_of Try.func52 (by kernel_rfl) rfl
theorem fok53 : FnOk Try.prog 53 := enters_of Try.func53 (by kernel_rfl) rfl
theorem fok54 : FnOk Try.prog 54 := enters_of Try.func54 (by kernel_rfl) rfl
theorem fok55 : FnOk Try.prog 55 := enters_of Try.func55 (by kernel_rfl) rfl
theorem fok56 : FnOk Try.prog 56 := enters_of Try.func56 (by kernel_rfl) rfl
theorem fok57 : FnOk Try.prog 57 := enters_of Try.func57 (by kernel_rfl) rfl
theorem fok58 : FnOk Try.prog 58 := enters_of Try.func58 (by kernel_rfl) rfl
theorem fok59 : FnOk Try.prog 59 := enters_of Try.func59 (by kernel_rfl) rfl
theorem fok60 : FnOk Try.prog 60 := enters_of Try.func60 (by kernel_rfl) rfl
theorem fok61 : FnOk Try.prog 61 := enters_of Try.func61 (by kernel_rfl) rfl
theorem fok62 : FnOk Try.prog 62 := enters_of Try.func62 (by kernel_rfl) rfl
theorem fok63 : FnOk Try.prog 63 := enters_of Try.func63 (by kernel_rfl) rfl
theorem fok64 : FnOk Try.prog 64 := enters_of Try.func64 (by kernel_rfl) rfl
theorem fok65 : FnOk Try.prog 65 := enters_of Try.func65 (by kernel_rfl) rfl
theorem fok66 : FnOk Try.prog 66 := enters_of Try.func66 (by kernel_rfl) rfl
theorem fok67 : FnOk Try.prog 67 := enters_of Try.func67 (by kernel_rfl) rfl
theorem fok68 : FnOk Try.prog 68 := enters_of Try.func68 (by kernel_rfl) rfl
theorem fok69 : FnOk Try.prog 69 := enters_of Try.func69 (by kernel_rfl) rfl
theorem fok70 : FnOk Try.prog 70 := enters_of Try.func70 (by kernel_rfl) rfl
theorem fok71 : FnOk Try.prog 71 := enters_of Try.func71 (by kernel_rfl) rfl
theorem fok72 : FnOk Try.prog 72 := enters_of Try.func72 (by kernel_rfl) rfl
theorem fok73 : FnOk Try.prog 73 := enters_of Try.func73 (by kernel_rfl) rfl
theorem fok74 : FnOk Try.prog 74 := enters_of Try.func74 (by kernel_rfl) rfl
theorem fok76 : FnOk Try.prog 76 := enters_of Try.func76 (by kernel_rfl) rfl
theorem fok77 : FnOk Try.prog 77 := enters_of Try.func77 (by kernel_rfl) rfl
theorem fok78 : FnOk Try.prog 78 := enters_of Try.func78 (by kernel_rfl) rfl
end Go.Proofs.Ythpbgolnlmjjdaa
