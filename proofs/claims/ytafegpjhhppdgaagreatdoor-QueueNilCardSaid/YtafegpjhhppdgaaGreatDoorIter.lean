/- slices.Sorted(maps.Keys(m)) at this program: the shelf's contracts laid, in plain words. -/
import Derived.Shelf.SlIter.Nil
import Derived.Shelf.SortM.Plain
import Derived.Shelf.SortM.SortNone
import Derived.Ground.GgzProg
import Derived.Ground.SlgmProg
import Derived.Test.YtafegpjhhppdgaaGreatDoorProg
import Derived.Test.YtafegpjhhppdgaaGreatDoorAe
namespace Go.Proofs
open Go.RowKit Go.Maps Go.Sort Go.Shelf

def Tryz.keys76_ren : Go.Shelf.Ren := ⟨fun | 7 => 76 | 10 => 110 | n => n, fun | 23 => 91 | 26 => 9 | 3 => 96 | 28 => 129 | 0 => 0 | 27 => 128 | 33 => 131 | 4 => 4 | n => n, fun | n => n⟩
theorem Tryz.keys76 : Go.Proofs.SlLaysZ.n7 Tryz.prog Tryz.keys76_ren := {
  mixed := by kernel_rfl
  f7 := ⟨Tryz.f76.name, by decide, Tryz.func76.trans (congrArg some (by kernel_rfl))⟩
  f10 := ⟨Tryz.f110.name, by decide, Tryz.func110.trans (congrArg some (by kernel_rfl))⟩
  t0 := Tryz.underlying0
  a0 := Tryz.isAgg0
  z0 := Tryz.sizeOf0
  v0 := Tryz.zeroValue0
  t4 := Tryz.underlying4
  a4 := Tryz.isAgg4
  z4 := Tryz.sizeOf4
  v4 := Tryz.zeroValue4
  t23 := Tryz.underlying91
  a23 := Tryz.isAgg91
  z23 := Tryz.sizeOf91
  v23 := Tryz.zeroValue91
  t26 := Tryz.underlying9
  a26 := Tryz.isAgg9
  z26 := Tryz.sizeOf9
  v26 := Tryz.zeroValue9
  t27 := Tryz.underlying128
  a27 := Tryz.isAgg128
  z27 := Tryz.sizeOf128
  v27 := Tryz.zeroValue128
  t28 := Tryz.underlying129
  a28 := Tryz.isAgg129
  z28 := Tryz.sizeOf129
  v28 := Tryz.zeroValue129
  t33 := Tryz.underlying131
  a33 := Tryz.isAgg131
  z33 := Tryz.sizeOf131
  v33 := Tryz.zeroValue131 }
def Tryz.sorted75_ren : Go.Shelf.Ren := ⟨fun | 6 => 75 | 8 => 108 | 9 => 109 | 11 => 128 | 13 => 130 | 12 => 129 | 23 => 151 | 24 => 121 | 14 => 142 | 15 => 143 | 16 => 144 | 17 => 145 | 18 => 146 | 19 => 147 | 20 => 148 | 21 => 149 | 22 => 150 | 25 => 164 | 26 => 165 | 27 => 166 | 28 => 167 | 29 => 168 | 30 => 169 | 31 => 177 | n => n, fun | 26 => 9 | 28 => 129 | 24 => 94 | 0 => 0 | 3 => 3 | 37 => 143 | 48 => 135 | 50 => 22 | 4 => 4 | 40 => 189 | 39 => 188 | 45 => 194 | 5 => 5 | 9 => 9 | 51 => 208 | 55 => 211 | 57 => 217 | 58 => 218 | 33 => 131 | n => n, fun | n => n⟩
theorem Tryz.sorted75 : Go.Proofs.SlLaysZ.n6 Tryz.prog Tryz.sorted75_ren := {
  mixed := by kernel_rfl
  f6 := ⟨Tryz.f75.name, by decide, Tryz.func75.trans (congrArg some (by kernel_rfl))⟩
  f8 := ⟨Tryz.f108.name, by decide, Tryz.func108.trans (congrArg some (by kernel_rfl))⟩
  f11 := ⟨Tryz.f128.name, by decide, Tryz.func128.trans (congrArg some (by kernel_rfl))⟩
  t0 := Tryz.underlying0
  a0 := Tryz.isAgg0
  z0 := Tryz.sizeOf0
  v0 := Tryz.zeroValue0
  t24 := Tryz.underlying94
  a24 := Tryz.isAgg94
  z24 := Tryz.sizeOf94
  v24 := Tryz.zeroValue94
  t26 := Tryz.underlying9
  a26 := Tryz.isAgg9
  z26 := Tryz.sizeOf9
  v26 := Tryz.zeroValue9
  t28 := Tryz.underlying129
  a28 := Tryz.isAgg129
  z28 := Tryz.sizeOf129
  v28 := Tryz.zeroValue129
  i26 := by kernel_rfl }
def Tryz.sort109_ren : Go.Shelf.Ren := ⟨fun | 6 => 109 | 8 => 130 | 9 => 129 | 19 => 151 | 20 => 121 | 21 => 142 | 22 => 143 | 23 => 144 | 24 => 145 | 25 => 146 | 26 => 147 | 27 => 148 | 28 => 149 | 29 => 150 | 36 => 164 | 31 => 165 | 32 => 166 | 37 => 167 | 38 => 168 | 39 => 169 | 41 => 177 | n => n, fun | 27 => 94 | 29 => 9 | 3 => 3 | 32 => 143 | 26 => 94 | 0 => 0 | 44 => 135 | 46 => 22 | 4 => 4 | 36 => 189 | 35 => 188 | 41 => 194 | 5 => 5 | 9 => 9 | 53 => 208 | 57 => 211 | 63 => 217 | 64 => 218 | n => n, fun | n => n⟩
theorem Tryz.sort109 : Go.Proofs.SlLaysM.n6 Tryz.prog Tryz.sort109_ren := {
  mixed := by kernel_rfl
  f6 := ⟨Tryz.f109.name, by decide, Tryz.func109.trans (congrArg some (by kernel_rfl))⟩
  f8 := Tryz.func130.trans (congrArg some (by kernel_rfl))
  f9 := ⟨Tryz.f129.name, by decide, Tryz.func129.trans (congrArg some (by kernel_rfl))⟩
  f19 := Tryz.func151.trans (congrArg some (by kernel_rfl))
  f20 := Tryz.func121.trans (congrArg some (by kernel_rfl))
  f21 := ⟨Tryz.f142.name, by decide, Tryz.func142.trans (congrArg some (by kernel_rfl))⟩
  f22 := ⟨Tryz.f143.name, by decide, Tryz.func143.trans (congrArg some (by kernel_rfl))⟩
  f23 := ⟨Tryz.f144.name, by decide, Tryz.func144.trans (congrArg some (by kernel_rfl))⟩
  f24 := ⟨Tryz.f145.name, by decide, Tryz.func145.trans (congrArg some (by kernel_rfl))⟩
  f25 := ⟨Tryz.f146.name, by decide, Tryz.func146.trans (congrArg some (by kernel_rfl))⟩
  f26 := ⟨Tryz.f147.name, by decide, Tryz.func147.trans (congrArg some (by kernel_rfl))⟩
  f27 := ⟨Tryz.f148.name, by decide, Tryz.func148.trans (congrArg some (by kernel_rfl))⟩
  f28 := ⟨Tryz.f149.name, by decide, Tryz.func149.trans (congrArg some (by kernel_rfl))⟩
  f29 := ⟨Tryz.f150.name, by decide, Tryz.func150.trans (congrArg some (by kernel_rfl))⟩
  f31 := Tryz.func165.trans (congrArg some (by kernel_rfl))
  f32 := Tryz.func166.trans (congrArg some (by kernel_rfl))
  f36 := ⟨Tryz.f164.name, by decide, Tryz.func164.trans (congrArg some (by kernel_rfl))⟩
  f37 := ⟨Tryz.f167.name, by decide, Tryz.func167.trans (congrArg some (by kernel_rfl))⟩
  f38 := ⟨Tryz.f168.name, by decide, Tryz.func168.trans (congrArg some (by kernel_rfl))⟩
  f39 := ⟨Tryz.f169.name, by decide, Tryz.func169.trans (congrArg some (by kernel_rfl))⟩
  f41 := ⟨Tryz.f177.name, by decide, Tryz.func177.trans (congrArg some (by kernel_rfl))⟩
  t0 := Tryz.underlying0
  a0 := Tryz.isAgg0
  z0 := Tryz.sizeOf0
  v0 := Tryz.zeroValue0
  t3 := Tryz.underlying3
  a3 := Tryz.isAgg3
  z3 := Tryz.sizeOf3
  v3 := Tryz.zeroValue3
  t4 := Tryz.underlying4
  a4 := Tryz.isAgg4
  z4 := Tryz.sizeOf4
  v4 := Tryz.zeroValue4
  t5 := Tryz.underlying5
  a5 := Tryz.isAgg5
  z5 := Tryz.sizeOf5
  v5 := Tryz.zeroValue5
  t9 := Tryz.underlying9
  a9 := Tryz.isAgg9
  z9 := Tryz.sizeOf9
  v9 := Tryz.zeroValue9
  t26 := Tryz.underlying94
  a26 := Tryz.isAgg94
  z26 := Tryz.sizeOf94
  v26 := Tryz.zeroValue94
  t27 := Tryz.underlying94
  a27 := Tryz.isAgg94
  z27 := Tryz.sizeOf94
  v27 := Tryz.zeroValue94
  t29 := Tryz.underlying9
  a29 := Tryz.isAgg9
  z29 := Tryz.sizeOf9
  v29 := Tryz.zeroValue9
  t32 := Tryz.underlying143
  a32 := Tryz.isAgg143
  z32 := Tryz.sizeOf143
  v32 := Tryz.zeroValue143
  t35 := Tryz.underlying188
  a35 := Tryz.isAgg188
  z35 := Tryz.sizeOf188
  v35 := Tryz.zeroValue188
  t36 := Tryz.underlying189
  a36 := Tryz.isAgg189
  z36 := Tryz.sizeOf189
  v36 := Tryz.zeroValue189
  t41 := Tryz.underlying194
  a41 := Tryz.isAgg194
  z41 := Tryz.sizeOf194
  v41 := Tryz.zeroValue194
  t44 := Tryz.underlying135
  a44 := Tryz.isAgg135
  z44 := Tryz.sizeOf135
  v44 := Tryz.zeroValue135
  t46 := Tryz.underlying22
  a46 := Tryz.isAgg22
  z46 := Tryz.sizeOf22
  v46 := Tryz.zeroValue22
  t53 := Tryz.underlying208
  a53 := Tryz.isAgg208
  z53 := Tryz.sizeOf208
  v53 := Tryz.zeroValue208
  t57 := Tryz.underlying211
  a57 := Tryz.isAgg211
  z57 := Tryz.sizeOf211
  v57 := Tryz.zeroValue211
  t63 := Tryz.underlying217
  a63 := Tryz.isAgg217
  z63 := Tryz.sizeOf217
  v63 := Tryz.zeroValue217
  t64 := Tryz.underlying218
  a64 := Tryz.isAgg218
  z64 := Tryz.sizeOf218
  v64 := Tryz.zeroValue218 }

/-- slices.Sort's two contracts at this program. -/
theorem Tryz.sorts75 (m : Nat) : AnyZ.SortsIn Tryz.prog Tryz.sorted75_ren Fence.wide m :=
  ⟨fun blk off cap ss W hH hblk hsz => callsIn_wide.2 (AnyM.slices_Sort_string Tryz.sort109 blk off cap ss W hH hblk hsz),
   fun p cap W => callsIn_wide.2 (AnyM.slices_Sort_string_none Tryz.sort109 p cap W)⟩

/-- slices.Sorted at what maps.Keys handed back, wherever the box lies. -/
theorem Tryz.sortsKeys : Go.Ai.SortsKeys Tryz.prog 75 110 9 := by
  intro w bx b nn D0 hbx hcell hown hmax hbytes
  have hseq : SeqGives Fence.wide 2 Tryz.prog 110 #[.pointer (some ⟨bx, 0, none⟩)] encStr (fun ss => ss.Perm (strKeys D0)) (Maps.size D0) w :=
    AnyZ.keys_gives (ρ := Tryz.keys76_ren) { Tryz.keys76 with } Fence.wide _ trivial rfl (by omega) bx b nn D0 _ hbx hcell hown
  exact (callsIn_wide (n := 5)).1 (AnyZ.sorted_in Tryz.sorted75 Fence.wide 5 trivial trivial trivial trivial rfl (by omega) (Tryz.sorts75 _) (enters_of Tryz.func109 (by kernel_rfl) rfl) 110 #[.pointer (some ⟨bx, 0, none⟩)] trivial (enters_of Tryz.func110 (by kernel_rfl) rfl) _ _ hmax hbytes _ hseq)

end Go.Proofs
