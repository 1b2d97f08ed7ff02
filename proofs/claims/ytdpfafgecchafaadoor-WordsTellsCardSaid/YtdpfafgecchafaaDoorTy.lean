/- What the walk knows of this seat's types; the walk's context. -/
import Derived.Test.YtdpfafgecchafaaDoorSxS
import Derived.Test.YtdpfafgecchafaaDoorProg
set_option linter.unusedVariables false
set_option maxRecDepth 100000
namespace Go.Proofs.YtdpfafgecchafaaDoor.Sx
open Go
def tyTab : Nat → Option TyI
  | 1 => some ⟨1, 8, [.nilFunc], .func⟩
  | 2 => some ⟨1, 8, [.int .i64 0], .int .i64⟩
  | 3 => some ⟨1, 8, [.int .i64 0], .int .i64⟩
  | 4 => some ⟨1, 1, [.bool false], .bool⟩
  | 5 => some ⟨1, 1, [.int .u8 0], .int .u8⟩
  | 6 => some ⟨1, 1, [.int .u8 0], .int .u8⟩
  | 7 => some ⟨4, 24, [.int .i64 0, .int .i64 0, .bool false, .int .u8 0], .struct [(0, 1), (1, 1), (2, 1), (3, 1)]⟩
  | 8 => some ⟨4, 24, [.int .i64 0, .int .i64 0, .bool false, .int .u8 0], .struct [(0, 1), (1, 1), (2, 1), (3, 1)]⟩
  | 9 => some ⟨1, 16, [.string ⟨#[]⟩], .string⟩
  | 10 => some ⟨1, 16, [.string ⟨#[]⟩], .string⟩
  | 11 => some ⟨1, 16, [.string ⟨#[]⟩], .string⟩
  | 12 => some ⟨1, 8, [.int .u64 0], .int .u64⟩
  | 13 => some ⟨2, 24, [.string ⟨#[]⟩, .int .u64 0], .struct [(0, 1), (1, 1)]⟩
  | 14 => some ⟨2, 24, [.string ⟨#[]⟩, .int .u64 0], .struct [(0, 1), (1, 1)]⟩
  | 15 => some ⟨1, 8, [.pointer none], .pointer 154⟩
  | 16 => some ⟨1, 8, [.pointer none], .pointer 157⟩
  | 17 => some ⟨1, 8, [.pointer none], .pointer 165⟩
  | 18 => some ⟨1, 8, [.pointer none], .struct [(0, 1)]⟩
  | 19 => some ⟨1, 8, [.pointer none], .struct [(0, 1)]⟩
  | 20 => some ⟨1, 16, [.nilIface], .iface⟩
  | 21 => some ⟨1, 4, [.int .i32 0], .int .i32⟩
  | 22 => some ⟨1, 24, [.slice none 0 0], .slice 54⟩
  | 23 => some ⟨2, 48, [.slice none 0 0, .slice none 0 0], .struct [(0, 1), (1, 1)]⟩
  | 24 => some ⟨2, 48, [.slice none 0 0, .slice none 0 0], .struct [(0, 1), (1, 1)]⟩
  | 25 => some ⟨1, 8, [.nilFunc], .func⟩
  | 26 => some ⟨1, 8, [.nilFunc], .func⟩
  | 27 => some ⟨1, 8, [.nilFunc], .func⟩
  | 28 => some ⟨1, 8, [.nilFunc], .func⟩
  | 29 => some ⟨1, 8, [.pointer none], .pointer 44⟩
  | 30 => some ⟨1, 24, [.slice none 0 0], .slice 78⟩
  | 31 => some ⟨1, 24, [.slice none 0 0], .slice 111⟩
  | 32 => some ⟨1, 24, [.slice none 0 0], .slice 113⟩
  | 33 => some ⟨1, 24, [.slice none 0 0], .slice 114⟩
  | 34 => some ⟨1, 24, [.slice none 0 0], .slice 22⟩
  | 35 => some ⟨1, 24, [.slice none 0 0], .slice 115⟩
  | 36 => some ⟨1, 24, [.slice none 0 0], .slice 118⟩
  | 37 => some ⟨1, 24, [.slice none 0 0], .slice 122⟩
  | 38 => some ⟨1, 24, [.slice none 0 0], .slice 124⟩
  | 39 => some ⟨1, 24, [.slice none 0 0], .slice 127⟩
  | 40 => some ⟨1, 24, [.slice none 0 0], .slice 32⟩
  | 41 => some ⟨1, 24, [.slice none 0 0], .slice 61⟩
  | 42 => some ⟨1, 24, [.slice none 0 0], .slice 131⟩
  | 43 => some ⟨13, 312, [.slice none 0 0, .slice none 0 0, .slice none 0 0, .slice none 0 0, .slice none 0 0, .slice none 0 0, .slice none 0 0, .slice none 0 0, .slice none 0 0, .slice none 0 0, .slice none 0 0, .slice none 0 0, .slice none 0 0], .struct [(0, 1), (1, 1), (2, 1), (3, 1), (4, 1), (5, 1), (6, 1), (7, 1), (8, 1), (9, 1), (10, 1), (11, 1), (12, 1)]⟩
  | 44 => some ⟨13, 312, [.slice none 0 0, .slice none 0 0, .slice none 0 0, .slice none 0 0, .slice none 0 0, .slice none 0 0, .slice none 0 0, .slice none 0 0, .slice none 0 0, .slice none 0 0, .slice none 0 0, .slice none 0 0, .slice none 0 0], .struct [(0, 1), (1, 1), (2, 1), (3, 1), (4, 1), (5, 1), (6, 1), (7, 1), (8, 1), (9, 1), (10, 1), (11, 1), (12, 1)]⟩
  | 45 => some ⟨1, 8, [.nilFunc], .func⟩
  | 46 => some ⟨1, 8, [.nilFunc], .func⟩
  | 47 => some ⟨1, 8, [.nilFunc], .func⟩
  | 48 => some ⟨1, 8, [.nilFunc], .func⟩
  | 49 => some ⟨1, 8, [.nilFunc], .func⟩
  | 50 => some ⟨1, 8, [.int .i64 0], .int .i64⟩
  | 51 => some ⟨1, 8, [.nilFunc], .func⟩
  | 52 => some ⟨1, 8, [.nilFunc], .func⟩
  | 53 => some ⟨1, 8, [.nilFunc], .func⟩
  | 54 => some ⟨1, 2, [.int .u16 0], .int .u16⟩
  | 55 => some ⟨1, 8, [.nilFunc], .func⟩
  | 56 => some ⟨1, 8, [.nilFunc], .func⟩
  | 57 => some ⟨1, 8, [.nilFunc], .func⟩
  | 58 => some ⟨1, 8, [.nilFunc], .func⟩
  | 59 => some ⟨1, 8, [.nilFunc], .func⟩
  | 60 => some ⟨1, 8, [.nilFunc], .func⟩
  | 61 => some ⟨1, 24, [.slice none 0 0], .slice 24⟩
  | 62 => some ⟨1, 8, [.nilFunc], .func⟩
  | 63 => some ⟨1, 8, [.nilFunc], .func⟩
  | 64 => some ⟨1, 8, [.nilFunc], .func⟩
  | 65 => some ⟨1, 8, [.nilFunc], .func⟩
  | 66 => some ⟨1, 8, [.nilFunc], .func⟩
  | 67 => some ⟨1, 8, [.nilFunc], .func⟩
  | 69 => some ⟨1, 8, [.nilFunc], .func⟩
  | 70 => some ⟨1, 8, [.nilFunc], .func⟩
  | 71 => some ⟨1, 8, [.nilFunc], .func⟩
  | 72 => some ⟨1, 8, [.nilFunc], .func⟩
  | 73 => some ⟨1, 8, [.nilFunc], .func⟩
  | 74 => some ⟨1, 8, [.nilFunc], .func⟩
  | 75 => some ⟨1, 8, [.nilFunc], .func⟩
  | 76 => some ⟨1, 8, [.int .u64 0], .int .u64⟩
  | 77 => some ⟨1, 8, [.pointer none], .pointer 80⟩
  | 78 => some ⟨1, 24, [.slice none 0 0], .slice 5⟩
  | 79 => some ⟨2, 32, [.pointer none, .slice none 0 0], .struct [(0, 1), (1, 1)]⟩
  | 80 => some ⟨2, 32, [.pointer none, .slice none 0 0], .struct [(0, 1), (1, 1)]⟩
  | 81 => some ⟨1, 16, [.nilIface], .iface⟩
  | 82 => some ⟨1, 16, [.nilIface], .iface⟩
  | 84 => some ⟨1, 8, [.nilFunc], .func⟩
  | 85 => some ⟨1, 8, [.nilFunc], .func⟩
  | 86 => some ⟨1, 8, [.nilFunc], .func⟩
  | 87 => some ⟨1, 8, [.nilFunc], .func⟩
  | 88 => some ⟨1, 8, [.nilFunc], .func⟩
  | 89 => some ⟨1, 8, [.nilFunc], .func⟩
  | 90 => some ⟨1, 8, [.nilFunc], .func⟩
  | 91 => some ⟨1, 8, [.nilFunc], .func⟩
  | 92 => some ⟨1, 8, [.nilFunc], .func⟩
  | 93 => some ⟨1, 8, [.nilFunc], .func⟩
  | 94 => some ⟨1, 8, [.nilFunc], .func⟩
  | 95 => some ⟨1, 8, [.nilFunc], .func⟩
  | 96 => some ⟨1, 8, [.nilFunc], .func⟩
  | 97 => some ⟨1, 8, [.nilFunc], .func⟩
  | 98 => some ⟨1, 8, [.nilFunc], .func⟩
  | 99 => some ⟨1, 8, [.nilFunc], .func⟩
  | 100 => some ⟨1, 8, [.nilFunc], .func⟩
  | 101 => some ⟨1, 8, [.nilFunc], .func⟩
  | 102 => some ⟨1, 8, [.nilFunc], .func⟩
  | 104 => some ⟨1, 8, [.nilFunc], .func⟩
  | 105 => some ⟨1, 8, [.pointer none], .pointer 22⟩
  | 107 => some ⟨1, 8, [.nilFunc], .func⟩
  | 108 => some ⟨1, 8, [.nilFunc], .func⟩
  | 109 => some ⟨1, 8, [.nilFunc], .func⟩
  | 110 => some ⟨1, 8, [.pointer none], .pointer 5⟩
  | 111 => some ⟨1, 24, [.slice none 0 0], .slice 9⟩
  | 112 => some ⟨1, 8, [.nilFunc], .func⟩
  | 113 => some ⟨1, 24, [.slice none 0 0], .slice 3⟩
  | 114 => some ⟨1, 24, [.slice none 0 0], .slice 4⟩
  | 115 => some ⟨1, 24, [.slice none 0 0], .slice 117⟩
  | 116 => some ⟨4, 24, [.int .i64 0, .int .i64 0, .int .u16 0, .int .u16 0], .struct [(0, 1), (1, 1), (2, 1), (3, 1)]⟩
  | 117 => some ⟨4, 24, [.int .i64 0, .int .i64 0, .int .u16 0, .int .u16 0], .struct [(0, 1), (1, 1), (2, 1), (3, 1)]⟩
  | 118 => some ⟨1, 24, [.slice none 0 0], .slice 121⟩
  | 119 => some ⟨1, 1, [.int .u8 0], .int .u8⟩
  | 120 => some ⟨3, 32, [.int .u8 0, .string ⟨#[]⟩, .int .i64 0], .struct [(0, 1), (1, 1), (2, 1)]⟩
  | 121 => some ⟨3, 32, [.int .u8 0, .string ⟨#[]⟩, .int .i64 0], .struct [(0, 1), (1, 1), (2, 1)]⟩
  | 122 => some ⟨1, 24, [.slice none 0 0], .slice 123⟩
  | 123 => some ⟨1, 1, [.int .u8 0], .int .u8⟩
  | 124 => some ⟨1, 24, [.slice none 0 0], .slice 126⟩
  | 125 => some ⟨4, 40, [.int .i64 0, .int .i64 0, .string ⟨#[]⟩, .int .u8 0], .struct [(0, 1), (1, 1), (2, 1), (3, 1)]⟩
  | 126 => some ⟨4, 40, [.int .i64 0, .int .i64 0, .string ⟨#[]⟩, .int .u8 0], .struct [(0, 1), (1, 1), (2, 1), (3, 1)]⟩
  | 127 => some ⟨1, 24, [.slice none 0 0], .slice 129⟩
  | 128 => some ⟨3, 32, [.string ⟨#[]⟩, .int .i64 0, .int .u8 0], .struct [(0, 1), (1, 1), (2, 1)]⟩
  | 129 => some ⟨3, 32, [.string ⟨#[]⟩, .int .i64 0, .int .u8 0], .struct [(0, 1), (1, 1), (2, 1)]⟩
  | 130 => some ⟨1, 8, [.nilFunc], .func⟩
  | 131 => some ⟨1, 24, [.slice none 0 0], .slice 134⟩
  | 132 => some ⟨1, 1, [.int .u8 0], .int .u8⟩
  | 133 => some ⟨3, 48, [.int .u8 0, .string ⟨#[]⟩, .slice none 0 0], .struct [(0, 1), (1, 1), (2, 1)]⟩
  | 134 => some ⟨3, 48, [.int .u8 0, .string ⟨#[]⟩, .slice none 0 0], .struct [(0, 1), (1, 1), (2, 1)]⟩
  | 135 => some ⟨1, 8, [.pointer none], .other⟩
  | 136 => some ⟨1, 8, [.nilFunc], .func⟩
  | 137 => some ⟨1, 8, [.nilFunc], .func⟩
  | 138 => some ⟨24, 24, [.int .u8 0, .int .u8 0, .int .u8 0, .int .u8 0, .int .u8 0, .int .u8 0, .int .u8 0, .int .u8 0, .int .u8 0, .int .u8 0, .int .u8 0, .int .u8 0, .int .u8 0, .int .u8 0, .int .u8 0, .int .u8 0, .int .u8 0, .int .u8 0, .int .u8 0, .int .u8 0, .int .u8 0, .int .u8 0, .int .u8 0, .int .u8 0], .array 24 5⟩
  | 139 => some ⟨1, 8, [.int .u64 0], .int .u64⟩
  | 140 => some ⟨1, 8, [.nilFunc], .func⟩
  | 141 => some ⟨1, 8, [.nilFunc], .func⟩
  | 143 => some ⟨1, 8, [.nilFunc], .func⟩
  | 144 => some ⟨1, 8, [.nilFunc], .func⟩
  | 145 => some ⟨1, 8, [.nilFunc], .func⟩
  | 146 => some ⟨20, 160, [.int .u64 0, .int .u64 0, .int .u64 0, .int .u64 0, .int .u64 0, .int .u64 0, .int .u64 0, .int .u64 0, .int .u64 0, .int .u64 0, .int .u64 0, .int .u64 0, .int .u64 0, .int .u64 0, .int .u64 0, .int .u64 0, .int .u64 0, .int .u64 0, .int .u64 0, .int .u64 0], .array 20 139⟩
  | 147 => some ⟨1, 4, [.int .u32 0], .int .u32⟩
  | 149 => some ⟨1, 8, [.nilFunc], .func⟩
  | 150 => some ⟨1, 8, [.nilFunc], .func⟩
  | 151 => some ⟨32, 32, [.int .u8 0, .int .u8 0, .int .u8 0, .int .u8 0, .int .u8 0, .int .u8 0, .int .u8 0, .int .u8 0, .int .u8 0, .int .u8 0, .int .u8 0, .int .u8 0, .int .u8 0, .int .u8 0, .int .u8 0, .int .u8 0, .int .u8 0, .int .u8 0, .int .u8 0, .int .u8 0, .int .u8 0, .int .u8 0, .int .u8 0, .int .u8 0, .int .u8 0, .int .u8 0, .int .u8 0, .int .u8 0, .int .u8 0, .int .u8 0, .int .u8 0, .int .u8 0], .array 32 5⟩
  | 152 => some ⟨64, 64, [.int .u8 0, .int .u8 0, .int .u8 0, .int .u8 0, .int .u8 0, .int .u8 0, .int .u8 0, .int .u8 0, .int .u8 0, .int .u8 0, .int .u8 0, .int .u8 0, .int .u8 0, .int .u8 0, .int .u8 0, .int .u8 0, .int .u8 0, .int .u8 0, .int .u8 0, .int .u8 0, .int .u8 0, .int .u8 0, .int .u8 0, .int .u8 0, .int .u8 0, .int .u8 0, .int .u8 0, .int .u8 0, .int .u8 0, .int .u8 0, .int .u8 0, .int .u8 0, .int .u8 0, .int .u8 0, .int .u8 0, .int .u8 0, .int .u8 0, .int .u8 0, .int .u8 0, .int .u8 0, .int .u8 0, .int .u8 0, .int .u8 0, .int .u8 0, .int .u8 0, .int .u8 0, .int .u8 0, .int .u8 0, .int .u8 0, .int .u8 0, .int .u8 0, .int .u8 0, .int .u8 0, .int .u8 0, .int .u8 0, .int .u8 0, .int .u8 0, .int .u8 0, .int .u8 0, .int .u8 0, .int .u8 0, .int .u8 0, .int .u8 0, .int .u8 0], .array 64 5⟩
  | 153 => some ⟨4, 40, [.pointer none, .pointer none, .pointer none, .string ⟨#[]⟩], .struct [(0, 1), (1, 1), (2, 1), (3, 1)]⟩
  | 154 => some ⟨4, 40, [.pointer none, .pointer none, .pointer none, .string ⟨#[]⟩], .struct [(0, 1), (1, 1), (2, 1), (3, 1)]⟩
  | 155 => some ⟨0, 0, [], .array 0 16⟩
  | 156 => some ⟨0, 0, [], .struct [(0, 0)]⟩
  | 157 => some ⟨0, 0, [], .struct [(0, 0)]⟩
  | 158 => some ⟨1, 8, [.nilFunc], .func⟩
  | 159 => some ⟨1, 1, [.int .u8 0], .int .u8⟩
  | 160 => some ⟨1, 1, [.int .u8 0], .int .u8⟩
  | 161 => some ⟨1, 8, [.nilFunc], .func⟩
  | 162 => some ⟨1, 4, [.int .i32 0], .int .i32⟩
  | 163 => some ⟨1, 4, [.int .i32 0], .int .i32⟩
  | 164 => some ⟨11, 48, [.int .u64 0, .int .u64 0, .int .u32 0, .int .u8 0, .int .u8 0, .int .u8 0, .int .u8 0, .nilFunc, .pointer none, .int .i32 0, .int .i32 0], .struct [(0, 1), (1, 1), (2, 1), (3, 1), (4, 1), (5, 1), (6, 1), (7, 1), (8, 1), (9, 1), (10, 1)]⟩
  | 165 => some ⟨11, 48, [.int .u64 0, .int .u64 0, .int .u32 0, .int .u8 0, .int .u8 0, .int .u8 0, .int .u8 0, .nilFunc, .pointer none, .int .i32 0, .int .i32 0], .struct [(0, 1), (1, 1), (2, 1), (3, 1), (4, 1), (5, 1), (6, 1), (7, 1), (8, 1), (9, 1), (10, 1)]⟩
  | _ => none
set_option maxHeartbeats 4000000 in
theorem tyTab_ok (t : TypeId) (i : TyI) (h : tyTab t = some i) : tyOf Tryd.prog t = some i := by
  unfold tyTab at h
  split at h <;> first | (cases h; kernel_rfl) | cases h
noncomputable def C : Ctx := { P := Tryd.prog, ty := tyTab, ok := tyTab_ok, mixed := by kernel_rfl }
theorem C_P : C.P = Tryd.prog := (rfl)
theorem ty_1 : C.ty 1 = some ⟨1, 8, [.nilFunc], .func⟩ := (rfl)
theorem ty_2 : C.ty 2 = some ⟨1, 8, [.int .i64 0], .int .i64⟩ := (rfl)
theorem ty_3 : C.ty 3 = some ⟨1, 8, [.int .i64 0], .int .i64⟩ := (rfl)
theorem ty_4 : C.ty 4 = some ⟨1, 1, [.bool false], .bool⟩ := (rfl)
theorem ty_5 : C.ty 5 = some ⟨1, 1, [.int .u8 0], .int .u8⟩ := (rfl)
theorem ty_6 : C.ty 6 = some ⟨1, 1, [.int .u8 0], .int .u8⟩ := (rfl)
theorem ty_7 : C.ty 7 = some ⟨4, 24, [.int .i64 0, .int .i64 0, .bool false, .int .u8 0], .struct [(0, 1), (1, 1), (2, 1), (3, 1)]⟩ := (rfl)
theorem ty_8 : C.ty 8 = some ⟨4, 24, [.int .i64 0, .int .i64 0, .bool false, .int .u8 0], .struct [(0, 1), (1, 1), (2, 1), (3, 1)]⟩ := (rfl)
theorem ty_9 : C.ty 9 = some ⟨1, 16, [.string ⟨#[]⟩], .string⟩ := (rfl)
theorem ty_10 : C.ty 10 = some ⟨1, 16, [.string ⟨#[]⟩], .string⟩ := (rfl)
theorem ty_11 : C.ty 11 = some ⟨1, 16, [.string ⟨#[]⟩], .string⟩ := (rfl)
theorem ty_12 : C.ty 12 = some ⟨1, 8, [.int .u64 0], .int .u64⟩ := (rfl)
theorem ty_13 : C.ty 13 = some ⟨2, 24, [.string ⟨#[]⟩, .int .u64 0], .struct [(0, 1), (1, 1)]⟩ := (rfl)
theorem ty_14 : C.ty 14 = some ⟨2, 24, [.string ⟨#[]⟩, .int .u64 0], .struct [(0, 1), (1, 1)]⟩ := (rfl)
theorem ty_15 : C.ty 15 = some ⟨1, 8, [.pointer none], .pointer 154⟩ := (rfl)
theorem ty_16 : C.ty 16 = some ⟨1, 8, [.pointer none], .pointer 157⟩ := (rfl)
theorem ty_17 : C.ty 17 = some ⟨1, 8, [.pointer none], .pointer 165⟩ := (rfl)
theorem ty_18 : C.ty 18 = some ⟨1, 8, [.pointer none], .struct [(0, 1)]⟩ := (rfl)
theorem ty_19 : C.ty 19 = some ⟨1, 8, [.pointer none], .struct [(0, 1)]⟩ := (rfl)
theorem ty_20 : C.ty 20 = some ⟨1, 16, [.nilIface], .iface⟩ := (rfl)
theorem ty_21 : C.ty 21 = some ⟨1, 4, [.int .i32 0], .int .i32⟩ := (rfl)
theorem ty_22 : C.ty 22 = some ⟨1, 24, [.slice none 0 0], .slice 54⟩ := (rfl)
theorem ty_23 : C.ty 23 = some ⟨2, 48, [.slice none 0 0, .slice none 0 0], .struct [(0, 1), (1, 1)]⟩ := (rfl)
theorem ty_24 : C.ty 24 = some ⟨2, 48, [.slice none 0 0, .slice none 0 0], .struct [(0, 1), (1, 1)]⟩ := (rfl)
theorem ty_25 : C.ty 25 = some ⟨1, 8, [.nilFunc], .func⟩ := (rfl)
theorem ty_26 : C.ty 26 = some ⟨1, 8, [.nilFunc], .func⟩ := (rfl)
theorem ty_27 : C.ty 27 = some ⟨1, 8, [.nilFunc], .func⟩ := (rfl)
theorem ty_28 : C.ty 28 = some ⟨1, 8, [.nilFunc], .func⟩ := (rfl)
theorem ty_29 : C.ty 29 = some ⟨1, 8, [.pointer none], .pointer 44⟩ := (rfl)
theorem ty_30 : C.ty 30 = some ⟨1, 24, [.slice none 0 0], .slice 78⟩ := (rfl)
theorem ty_31 : C.ty 31 = some ⟨1, 24, [.slice none 0 0], .slice 111⟩ := (rfl)
theorem ty_32 : C.ty 32 = some ⟨1, 24, [.slice none 0 0], .slice 113⟩ := (rfl)
theorem ty_33 : C.ty 33 = some ⟨1, 24, [.slice none 0 0], .slice 114⟩ := (rfl)
theorem ty_34 : C.ty 34 = some ⟨1, 24, [.slice none 0 0], .slice 22⟩ := (rfl)
theorem ty_35 : C.ty 35 = some ⟨1, 24, [.slice none 0 0], .slice 115⟩ := (rfl)
theorem ty_36 : C.ty 36 = some ⟨1, 24, [.slice none 0 0], .slice 118⟩ := (rfl)
theorem ty_37 : C.ty 37 = some ⟨1, 24, [.slice none 0 0], .slice 122⟩ := (rfl)
theorem ty_38 : C.ty 38 = some ⟨1, 24, [.slice none 0 0], .slice 124⟩ := (rfl)
theorem ty_39 : C.ty 39 = some ⟨1, 24, [.slice none 0 0], .slice 127⟩ := (rfl)
theorem ty_40 : C.ty 40 = some ⟨1, 24, [.slice none 0 0], .slice 32⟩ := (rfl)
theorem ty_41 : C.ty 41 = some ⟨1, 24, [.slice none 0 0], .slice 61⟩ := (rfl)
theorem ty_42 : C.ty 42 = some ⟨1, 24, [.slice none 0 0], .slice 131⟩ := (rfl)
theorem ty_43 : C.ty 43 = some ⟨13, 312, [.slice none 0 0, .slice none 0 0, .slice none 0 0, .slice none 0 0, .slice none 0 0, .slice none 0 0, .slice none 0 0, .slice none 0 0, .slice none 0 0, .slice none 0 0, .slice none 0 0, .slice none 0 0, .slice none 0 0], .struct [(0, 1), (1, 1), (2, 1), (3, 1), (4, 1), (5, 1), (6, 1), (7, 1), (8, 1), (9, 1), (10, 1), (11, 1), (12, 1)]⟩ := (rfl)
theorem ty_44 : C.ty 44 = some ⟨13, 312, [.slice none 0 0, .slice none 0 0, .slice none 0 0, .slice none 0 0, .slice none 0 0, .slice none 0 0, .slice none 0 0, .slice none 0 0, .slice none 0 0, .slice none 0 0, .slice none 0 0, .slice none 0 0, .slice none 0 0], .struct [(0, 1), (1, 1), (2, 1), (3, 1), (4, 1), (5, 1), (6, 1), (7, 1), (8, 1), (9, 1), (10, 1), (11, 1), (12, 1)]⟩ := (rfl)
theorem ty_45 : C.ty 45 = some ⟨1, 8, [.nilFunc], .func⟩ := (rfl)
theorem ty_46 : C.ty 46 = some ⟨1, 8, [.nilFunc], .func⟩ := (rfl)
theorem ty_47 : C.ty 47 = some ⟨1, 8, [.nilFunc], .func⟩ := (rfl)
theorem ty_48 : C.ty 48 = some ⟨1, 8, [.nilFunc], .func⟩ := (rfl)
theorem ty_49 : C.ty 49 = some ⟨1, 8, [.nilFunc], .func⟩ := (rfl)
theorem ty_50 : C.ty 50 = some ⟨1, 8, [.int .i64 0], .int .i64⟩ := (rfl)
theorem ty_51 : C.ty 51 = some ⟨1, 8, [.nilFunc], .func⟩ := (rfl)
theorem ty_52 : C.ty 52 = some ⟨1, 8, [.nilFunc], .func⟩ := (rfl)
theorem ty_53 : C.ty 53 = some ⟨1, 8, [.nilFunc], .func⟩ := (rfl)
theorem ty_54 : C.ty 54 = some ⟨1, 2, [.int .u16 0], .int .u16⟩ := (rfl)
theorem ty_55 : C.ty 55 = some ⟨1, 8, [.nilFunc], .func⟩ := (rfl)
theorem ty_56 : C.ty 56 = some ⟨1, 8, [.nilFunc], .func⟩ := (rfl)
theorem ty_57 : C.ty 57 = some ⟨1, 8, [.nilFunc], .func⟩ := (rfl)
theorem ty_58 : C.ty 58 = some ⟨1, 8, [.nilFunc], .func⟩ := (rfl)
theorem ty_59 : C.ty 59 = some ⟨1, 8, [.nilFunc], .func⟩ := (rfl)
theorem ty_60 : C.ty 60 = some ⟨1, 8, [.nilFunc], .func⟩ := (rfl)
theorem ty_61 : C.ty 61 = some ⟨1, 24, [.slice none 0 0], .slice 24⟩ := (rfl)
theorem ty_62 : C.ty 62 = some ⟨1, 8, [.nilFunc], .func⟩ := (rfl)
theorem ty_63 : C.ty 63 = some ⟨1, 8, [.nilFunc], .func⟩ := (rfl)
theorem ty_64 : C.ty 64 = some ⟨1, 8, [.nilFunc], .func⟩ := (rfl)
theorem ty_65 : C.ty 65 = some ⟨1, 8, [.nilFunc], .func⟩ := (rfl)
theorem ty_66 : C.ty 66 = some ⟨1, 8, [.nilFunc], .func⟩ := (rfl)
theorem ty_67 : C.ty 67 = some ⟨1, 8, [.nilFunc], .func⟩ := (rfl)
theorem ty_69 : C.ty 69 = some ⟨1, 8, [.nilFunc], .func⟩ := (rfl)
theorem ty_70 : C.ty 70 = some ⟨1, 8, [.nilFunc], .func⟩ := (rfl)
theorem ty_71 : C.ty 71 = some ⟨1, 8, [.nilFunc], .func⟩ := (rfl)
theorem ty_72 : C.ty 72 = some ⟨1, 8, [.nilFunc], .func⟩ := (rfl)
theorem ty_73 : C.ty 73 = some ⟨1, 8, [.nilFunc], .func⟩ := (rfl)
theorem ty_74 : C.ty 74 = some ⟨1, 8, [.nilFunc], .func⟩ := (rfl)
theorem ty_75 : C.ty 75 = some ⟨1, 8, [.nilFunc], .func⟩ := (rfl)
theorem ty_76 : C.ty 76 = some ⟨1, 8, [.int .u64 0], .int .u64⟩ := (rfl)
theorem ty_77 : C.ty 77 = some ⟨1, 8, [.pointer none], .pointer 80⟩ := (rfl)
theorem ty_78 : C.ty 78 = some ⟨1, 24, [.slice none 0 0], .slice 5⟩ := (rfl)
theorem ty_79 : C.ty 79 = some ⟨2, 32, [.pointer none, .slice none 0 0], .struct [(0, 1), (1, 1)]⟩ := (rfl)
theorem ty_80 : C.ty 80 = some ⟨2, 32, [.pointer none, .slice none 0 0], .struct [(0, 1), (1, 1)]⟩ := (rfl)
theorem ty_81 : C.ty 81 = some ⟨1, 16, [.nilIface], .iface⟩ := (rfl)
theorem ty_82 : C.ty 82 = some ⟨1, 16, [.nilIface], .iface⟩ := (rfl)
theorem ty_84 : C.ty 84 = some ⟨1, 8, [.nilFunc], .func⟩ := (rfl)
theorem ty_85 : C.ty 85 = some ⟨1, 8, [.nilFunc], .func⟩ := (rfl)
theorem ty_86 : C.ty 86 = some ⟨1, 8, [.nilFunc], .func⟩ := (rfl)
theorem ty_87 : C.ty 87 = some ⟨1, 8, [.nilFunc], .func⟩ := (rfl)
theorem ty_88 : C.ty 88 = some ⟨1, 8, [.nilFunc], .func⟩ := (rfl)
theorem ty_89 : C.ty 89 = some ⟨1, 8, [.nilFunc], .func⟩ := (rfl)
theorem ty_90 : C.ty 90 = some ⟨1, 8, [.nilFunc], .func⟩ := (rfl)
theorem ty_91 : C.ty 91 = some ⟨1, 8, [.nilFunc], .func⟩ := (rfl)
theorem ty_92 : C.ty 92 = some ⟨1, 8, [.nilFunc], .func⟩ := (rfl)
theorem ty_93 : C.ty 93 = some ⟨1, 8, [.nilFunc], .func⟩ := (rfl)
theorem ty_94 : C.ty 94 = some ⟨1, 8, [.nilFunc], .func⟩ := (rfl)
theorem ty_95 : C.ty 95 = some ⟨1, 8, [.nilFunc], .func⟩ := (rfl)
theorem ty_96 : C.ty 96 = some ⟨1, 8, [.nilFunc], .func⟩ := (rfl)
theorem ty_97 : C.ty 97 = some ⟨1, 8, [.nilFunc], .func⟩ := (rfl)
theorem ty_98 : C.ty 98 = some ⟨1, 8, [.nilFunc], .func⟩ := (rfl)
theorem ty_99 : C.ty 99 = some ⟨1, 8, [.nilFunc], .func⟩ := (rfl)
theorem ty_100 : C.ty 100 = some ⟨1, 8, [.nilFunc], .func⟩ := (rfl)
theorem ty_101 : C.ty 101 = some ⟨1, 8, [.nilFunc], .func⟩ := (rfl)
theorem ty_102 : C.ty 102 = some ⟨1, 8, [.nilFunc], .func⟩ := (rfl)
theorem ty_104 : C.ty 104 = some ⟨1, 8, [.nilFunc], .func⟩ := (rfl)
theorem ty_105 : C.ty 105 = some ⟨1, 8, [.pointer none], .pointer 22⟩ := (rfl)
theorem ty_107 : C.ty 107 = some ⟨1, 8, [.nilFunc], .func⟩ := (rfl)
theorem ty_108 : C.ty 108 = some ⟨1, 8, [.nilFunc], .func⟩ := (rfl)
theorem ty_109 : C.ty 109 = some ⟨1, 8, [.nilFunc], .func⟩ := (rfl)
theorem ty_110 : C.ty 110 = some ⟨1, 8, [.pointer none], .pointer 5⟩ := (rfl)
theorem ty_111 : C.ty 111 = some ⟨1, 24, [.slice none 0 0], .slice 9⟩ := (rfl)
theorem ty_112 : C.ty 112 = some ⟨1, 8, [.nilFunc], .func⟩ := (rfl)
theorem ty_113 : C.ty 113 = some ⟨1, 24, [.slice none 0 0], .slice 3⟩ := (rfl)
theorem ty_114 : C.ty 114 = some ⟨1, 24, [.slice none 0 0], .slice 4⟩ := (rfl)
theorem ty_115 : C.ty 115 = some ⟨1, 24, [.slice none 0 0], .slice 117⟩ := (rfl)
theorem ty_116 : C.ty 116 = some ⟨4, 24, [.int .i64 0, .int .i64 0, .int .u16 0, .int .u16 0], .struct [(0, 1), (1, 1), (2, 1), (3, 1)]⟩ := (rfl)
theorem ty_117 : C.ty 117 = some ⟨4, 24, [.int .i64 0, .int .i64 0, .int .u16 0, .int .u16 0], .struct [(0, 1), (1, 1), (2, 1), (3, 1)]⟩ := (rfl)
theorem ty_118 : C.ty 118 = some ⟨1, 24, [.slice none 0 0], .slice 121⟩ := (rfl)
theorem ty_119 : C.ty 119 = some ⟨1, 1, [.int .u8 0], .int .u8⟩ := (rfl)
theorem ty_120 : C.ty 120 = some ⟨3, 32, [.int .u8 0, .string ⟨#[]⟩, .int .i64 0], .struct [(0, 1), (1, 1), (2, 1)]⟩ := (rfl)
theorem ty_121 : C.ty 121 = some ⟨3, 32, [.int .u8 0, .string ⟨#[]⟩, .int .i64 0], .struct [(0, 1), (1, 1), (2, 1)]⟩ := (rfl)
theorem ty_122 : C.ty 122 = some ⟨1, 24, [.slice none 0 0], .slice 123⟩ := (rfl)
theorem ty_123 : C.ty 123 = some ⟨1, 1, [.int .u8 0], .int .u8⟩ := (rfl)
theorem ty_124 : C.ty 124 = some ⟨1, 24, [.slice none 0 0], .slice 126⟩ := (rfl)
theorem ty_125 : C.ty 125 = some ⟨4, 40, [.int .i64 0, .int .i64 0, .string ⟨#[]⟩, .int .u8 0], .struct [(0, 1), (1, 1), (2, 1), (3, 1)]⟩ := (rfl)
theorem ty_126 : C.ty 126 = some ⟨4, 40, [.int .i64 0, .int .i64 0, .string ⟨#[]⟩, .int .u8 0], .struct [(0, 1), (1, 1), (2, 1), (3, 1)]⟩ := (rfl)
theorem ty_127 : C.ty 127 = some ⟨1, 24, [.slice none 0 0], .slice 129⟩ := (rfl)
theorem ty_128 : C.ty 128 = some ⟨3, 32, [.string ⟨#[]⟩, .int .i64 0, .int .u8 0], .struct [(0, 1), (1, 1), (2, 1)]⟩ := (rfl)
theorem ty_129 : C.ty 129 = some ⟨3, 32, [.string ⟨#[]⟩, .int .i64 0, .int .u8 0], .struct [(0, 1), (1, 1), (2, 1)]⟩ := (rfl)
theorem ty_130 : C.ty 130 = some ⟨1, 8, [.nilFunc], .func⟩ := (rfl)
theorem ty_131 : C.ty 131 = some ⟨1, 24, [.slice none 0 0], .slice 134⟩ := (rfl)
theorem ty_132 : C.ty 132 = some ⟨1, 1, [.int .u8 0], .int .u8⟩ := (rfl)
theorem ty_133 : C.ty 133 = some ⟨3, 48, [.int .u8 0, .string ⟨#[]⟩, .slice none 0 0], .struct [(0, 1), (1, 1), (2, 1)]⟩ := (rfl)
theorem ty_134 : C.ty 134 = some ⟨3, 48, [.int .u8 0, .string ⟨#[]⟩, .slice none 0 0], .struct [(0, 1), (1, 1), (2, 1)]⟩ := (rfl)
theorem ty_135 : C.ty 135 = some ⟨1, 8, [.pointer none], .other⟩ := (rfl)
theorem ty_136 : C.ty 136 = some ⟨1, 8, [.nilFunc], .func⟩ := (rfl)
theorem ty_137 : C.ty 137 = some ⟨1, 8, [.nilFunc], .func⟩ := (rfl)
theorem ty_138 : C.ty 138 = some ⟨24, 24, [.int .u8 0, .int .u8 0, .int .u8 0, .int .u8 0, .int .u8 0, .int .u8 0, .int .u8 0, .int .u8 0, .int .u8 0, .int .u8 0, .int .u8 0, .int .u8 0, .int .u8 0, .int .u8 0, .int .u8 0, .int .u8 0, .int .u8 0, .int .u8 0, .int .u8 0, .int .u8 0, .int .u8 0, .int .u8 0, .int .u8 0, .int .u8 0], .array 24 5⟩ := (rfl)
theorem ty_139 : C.ty 139 = some ⟨1, 8, [.int .u64 0], .int .u64⟩ := (rfl)
theorem ty_140 : C.ty 140 = some ⟨1, 8, [.nilFunc], .func⟩ := (rfl)
theorem ty_141 : C.ty 141 = some ⟨1, 8, [.nilFunc], .func⟩ := (rfl)
theorem ty_143 : C.ty 143 = some ⟨1, 8, [.nilFunc], .func⟩ := (rfl)
theorem ty_144 : C.ty 144 = some ⟨1, 8, [.nilFunc], .func⟩ := (rfl)
theorem ty_145 : C.ty 145 = some ⟨1, 8, [.nilFunc], .func⟩ := (rfl)
theorem ty_146 : C.ty 146 = some ⟨20, 160, [.int .u64 0, .int .u64 0, .int .u64 0, .int .u64 0, .int .u64 0, .int .u64 0, .int .u64 0, .int .u64 0, .int .u64 0, .int .u64 0, .int .u64 0, .int .u64 0, .int .u64 0, .int .u64 0, .int .u64 0, .int .u64 0, .int .u64 0, .int .u64 0, .int .u64 0, .int .u64 0], .array 20 139⟩ := (rfl)
theorem ty_147 : C.ty 147 = some ⟨1, 4, [.int .u32 0], .int .u32⟩ := (rfl)
theorem ty_149 : C.ty 149 = some ⟨1, 8, [.nilFunc], .func⟩ := (rfl)
theorem ty_150 : C.ty 150 = some ⟨1, 8, [.nilFunc], .func⟩ := (rfl)
theorem ty_151 : C.ty 151 = some ⟨32, 32, [.int .u8 0, .int .u8 0, .int .u8 0, .int .u8 0, .int .u8 0, .int .u8 0, .int .u8 0, .int .u8 0, .int .u8 0, .int .u8 0, .int .u8 0, .int .u8 0, .int .u8 0, .int .u8 0, .int .u8 0, .int .u8 0, .int .u8 0, .int .u8 0, .int .u8 0, .int .u8 0, .int .u8 0, .int .u8 0, .int .u8 0, .int .u8 0, .int .u8 0, .int .u8 0, .int .u8 0, .int .u8 0, .int .u8 0, .int .u8 0, .int .u8 0, .int .u8 0], .array 32 5⟩ := (rfl)
theorem ty_152 : C.ty 152 = some ⟨64, 64, [.int .u8 0, .int .u8 0, .int .u8 0, .int .u8 0, .int .u8 0, .int .u8 0, .int .u8 0, .int .u8 0, .int .u8 0, .int .u8 0, .int .u8 0, .int .u8 0, .int .u8 0, .int .u8 0, .int .u8 0, .int .u8 0, .int .u8 0, .int .u8 0, .int .u8 0, .int .u8 0, .int .u8 0, .int .u8 0, .int .u8 0, .int .u8 0, .int .u8 0, .int .u8 0, .int .u8 0, .int .u8 0, .int .u8 0, .int .u8 0, .int .u8 0, .int .u8 0, .int .u8 0, .int .u8 0, .int .u8 0, .int .u8 0, .int .u8 0, .int .u8 0, .int .u8 0, .int .u8 0, .int .u8 0, .int .u8 0, .int .u8 0, .int .u8 0, .int .u8 0, .int .u8 0, .int .u8 0, .int .u8 0, .int .u8 0, .int .u8 0, .int .u8 0, .int .u8 0, .int .u8 0, .int .u8 0, .int .u8 0, .int .u8 0, .int .u8 0, .int .u8 0, .int .u8 0, .int .u8 0, .int .u8 0, .int .u8 0, .int .u8 0, .int .u8 0], .array 64 5⟩ := (rfl)
theorem ty_153 : C.ty 153 = some ⟨4, 40, [.pointer none, .pointer none, .pointer none, .string ⟨#[]⟩], .struct [(0, 1), (1, 1), (2, 1), (3, 1)]⟩ := (rfl)
theorem ty_154 : C.ty 154 = some ⟨4, 40, [.pointer none, .pointer none, .pointer none, .string ⟨#[]⟩], .struct [(0, 1), (1, 1), (2, 1), (3, 1)]⟩ := (rfl)
theorem ty_155 : C.ty 155 = some ⟨0, 0, [], .array 0 16⟩ := (rfl)
theorem ty_156 : C.ty 156 = some ⟨0, 0, [], .struct [(0, 0)]⟩ := (rfl)
theorem ty_157 : C.ty 157 = some ⟨0, 0, [], .struct [(0, 0)]⟩ := (rfl)
theorem ty_158 : C.ty 158 = some ⟨1, 8, [.nilFunc], .func⟩ := (rfl)
theorem ty_159 : C.ty 159 = some ⟨1, 1, [.int .u8 0], .int .u8⟩ := (rfl)
theorem ty_160 : C.ty 160 = some ⟨1, 1, [.int .u8 0], .int .u8⟩ := (rfl)
theorem ty_161 : C.ty 161 = some ⟨1, 8, [.nilFunc], .func⟩ := (rfl)
theorem ty_162 : C.ty 162 = some ⟨1, 4, [.int .i32 0], .int .i32⟩ := (rfl)
theorem ty_163 : C.ty 163 = some ⟨1, 4, [.int .i32 0], .int .i32⟩ := (rfl)
theorem ty_164 : C.ty 164 = some ⟨11, 48, [.int .u64 0, .int .u64 0, .int .u32 0, .int .u8 0, .int .u8 0, .int .u8 0, .int .u8 0, .nilFunc, .pointer none, .int .i32 0, .int .i32 0], .struct [(0, 1), (1, 1), (2, 1), (3, 1), (4, 1), (5, 1), (6, 1), (7, 1), (8, 1), (9, 1), (10, 1)]⟩ := (rfl)
theorem ty_165 : C.ty 165 = some ⟨11, 48, [.int .u64 0, .int .u64 0, .int .u32 0, .int .u8 0, .int .u8 0, .int .u8 0, .int .u8 0, .nilFunc, .pointer none, .int .i32 0, .int .i32 0], .struct [(0, 1), (1, 1), (2, 1), (3, 1), (4, 1), (5, 1), (6, 1), (7, 1), (8, 1), (9, 1), (10, 1)]⟩ := (rfl)
end Go.Proofs.YtdpfafgecchafaaDoor.Sx
