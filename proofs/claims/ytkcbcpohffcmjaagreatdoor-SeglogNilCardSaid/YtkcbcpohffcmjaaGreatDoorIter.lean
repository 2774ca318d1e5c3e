/- slices.Sorted(maps.Keys(m)) at this program: the shelf's contracts laid, in plain words. -/
import Derived.Shelf.SlIter.Nil
import Derived.Shelf.SortM.Plain
import Derived.Shelf.SortM.SortNone
import Derived.Ground.GgzProg
import Derived.Ground.SlgmProg
import Derived.Test.YtkcbcpohffcmjaaGreatDoorProg
import Derived.Test.YtkcbcpohffcmjaaGreatDoorAe
namespace Go.Proofs
open Go.RowKit Go.Maps Go.Sort Go.Shelf

def Tryz.keys61_ren : Go.Shelf.Ren := ⟨fun | 7 => 61 | 10 => 72 | n => n, fun | 23 => 56 | 26 => 9 | 3 => 64 | 28 => 94 | 0 => 0 | 27 => 93 | 33 => 59 | 4 => 4 | n => n, fun | n => n⟩
theorem Tryz.keys61 : Go.Proofs.SlLaysZ.n7 Tryz.prog Tryz.keys61_ren := {
  mixed := by kernel_rfl
  f7 := ⟨Tryz.f61.name, by decide, Tryz.func61.trans (congrArg some (by kernel_rfl))⟩
  f10 := ⟨Tryz.f72.name, by decide, Tryz.func72.trans (congrArg some (by kernel_rfl))⟩
  t0 := Tryz.underlying0
  a0 := Tryz.isAgg0
  z0 := Tryz.sizeOf0
  v0 := Tryz.zeroValue0
  t4 := Tryz.underlying4
  a4 := Tryz.isAgg4
  z4 := Tryz.sizeOf4
  v4 := Tryz.zeroValue4
  t23 := Tryz.underlying56
  a23 := Tryz.isAgg56
  z23 := Tryz.sizeOf56
  v23 := Tryz.zeroValue56
  t26 := Tryz.underlying9
  a26 := Tryz.isAgg9
  z26 := Tryz.sizeOf9
  v26 := Tryz.zeroValue9
  t27 := Tryz.underlying93
  a27 := Tryz.isAgg93
  z27 := Tryz.sizeOf93
  v27 := Tryz.zeroValue93
  t28 := Tryz.underlying94
  a28 := Tryz.isAgg94
  z28 := Tryz.sizeOf94
  v28 := Tryz.zeroValue94
  t33 := Tryz.underlying59
  a33 := Tryz.isAgg59
  z33 := Tryz.sizeOf59
  v33 := Tryz.zeroValue59 }
def Tryz.sorted60_ren : Go.Shelf.Ren := ⟨fun | 6 => 60 | 8 => 70 | 9 => 71 | 11 => 86 | 13 => 88 | 12 => 87 | 23 => 107 | 24 => 77 | 14 => 98 | 15 => 99 | 16 => 100 | 17 => 101 | 18 => 102 | 19 => 103 | 20 => 104 | 21 => 105 | 22 => 106 | 25 => 113 | 26 => 114 | 27 => 115 | 28 => 116 | 29 => 117 | 30 => 118 | 31 => 123 | n => n, fun | 26 => 9 | 28 => 94 | 24 => 62 | 0 => 0 | 3 => 3 | 37 => 96 | 48 => 69 | 50 => 23 | 4 => 4 | 40 => 132 | 39 => 131 | 45 => 136 | 5 => 5 | 9 => 9 | 51 => 140 | 55 => 143 | 57 => 154 | 58 => 155 | 33 => 59 | n => n, fun | n => n⟩
theorem Tryz.sorted60 : Go.Proofs.SlLaysZ.n6 Tryz.prog Tryz.sorted60_ren := {
  mixed := by kernel_rfl
  f6 := ⟨Tryz.f60.name, by decide, Tryz.func60.trans (congrArg some (by kernel_rfl))⟩
  f8 := ⟨Tryz.f70.name, by decide, Tryz.func70.trans (congrArg some (by kernel_rfl))⟩
  f11 := ⟨Tryz.f86.name, by decide, Tryz.func86.trans (congrArg some (by kernel_rfl))⟩
  t0 := Tryz.underlying0
  a0 := Tryz.isAgg0
  z0 := Tryz.sizeOf0
  v0 := Tryz.zeroValue0
  t24 := Tryz.underlying62
  a24 := Tryz.isAgg62
  z24 := Tryz.sizeOf62
  v24 := Tryz.zeroValue62
  t26 := Tryz.underlying9
  a26 := Tryz.isAgg9
  z26 := Tryz.sizeOf9
  v26 := Tryz.zeroValue9
  t28 := Tryz.underlying94
  a28 := Tryz.isAgg94
  z28 := Tryz.sizeOf94
  v28 := Tryz.zeroValue94
  i26 := by kernel_rfl }
def Tryz.sort71_ren : Go.Shelf.Ren := ⟨fun | 6 => 71 | 8 => 88 | 9 => 87 | 19 => 107 | 20 => 77 | 21 => 98 | 22 => 99 | 23 => 100 | 24 => 101 | 25 => 102 | 26 => 103 | 27 => 104 | 28 => 105 | 29 => 106 | 36 => 113 | 31 => 114 | 32 => 115 | 37 => 116 | 38 => 117 | 39 => 118 | 41 => 123 | n => n, fun | 27 => 62 | 29 => 9 | 3 => 3 | 32 => 96 | 26 => 62 | 0 => 0 | 44 => 69 | 46 => 23 | 4 => 4 | 36 => 132 | 35 => 131 | 41 => 136 | 5 => 5 | 9 => 9 | 53 => 140 | 57 => 143 | 63 => 154 | 64 => 155 | n => n, fun | n => n⟩
theorem Tryz.sort71 : Go.Proofs.SlLaysM.n6 Tryz.prog Tryz.sort71_ren := {
  mixed := by kernel_rfl
  f6 := ⟨Tryz.f71.name, by decide, Tryz.func71.trans (congrArg some (by kernel_rfl))⟩
  f8 := Tryz.func88.trans (congrArg some (by kernel_rfl))
  f9 := ⟨Tryz.f87.name, by decide, Tryz.func87.trans (congrArg some (by kernel_rfl))⟩
  f19 := Tryz.func107.trans (congrArg some (by kernel_rfl))
  f20 := Tryz.func77.trans (congrArg some (by kernel_rfl))
  f21 := ⟨Tryz.f98.name, by decide, Tryz.func98.trans (congrArg some (by kernel_rfl))⟩
  f22 := ⟨Tryz.f99.name, by decide, Tryz.func99.trans (congrArg some (by kernel_rfl))⟩
  f23 := ⟨Tryz.f100.name, by decide, Tryz.func100.trans (congrArg some (by kernel_rfl))⟩
  f24 := ⟨Tryz.f101.name, by decide, Tryz.func101.trans (congrArg some (by kernel_rfl))⟩
  f25 := ⟨Tryz.f102.name, by decide, Tryz.func102.trans (congrArg some (by kernel_rfl))⟩
  f26 := ⟨Tryz.f103.name, by decide, Tryz.func103.trans (congrArg some (by kernel_rfl))⟩
  f27 := ⟨Tryz.f104.name, by decide, Tryz.func104.trans (congrArg some (by kernel_rfl))⟩
  f28 := ⟨Tryz.f105.name, by decide, Tryz.func105.trans (congrArg some (by kernel_rfl))⟩
  f29 := ⟨Tryz.f106.name, by decide, Tryz.func106.trans (congrArg some (by kernel_rfl))⟩
  f31 := Tryz.func114.trans (congrArg some (by kernel_rfl))
  f32 := Tryz.func115.trans (congrArg some (by kernel_rfl))
  f36 := ⟨Tryz.f113.name, by decide, Tryz.func113.trans (congrArg some (by kernel_rfl))⟩
  f37 := ⟨Tryz.f116.name, by decide, Tryz.func116.trans (congrArg some (by kernel_rfl))⟩
  f38 := ⟨Tryz.f117.name, by decide, Tryz.func117.trans (congrArg some (by kernel_rfl))⟩
  f39 := ⟨Tryz.f118.name, by decide, Tryz.func118.trans (congrArg some (by kernel_rfl))⟩
  f41 := ⟨Tryz.f123.name, by decide, Tryz.func123.trans (congrArg some (by kernel_rfl))⟩
  t0 := Tryz.underlying0
  a0 := Tryz.isAgg0
  z0 := Tryz.sizeOf0
  v0 := Tryz.zeroValue0
  t3 := Tryz.underlying3
  a3 := Tryz.isAgg3
  z3 := Tryz.sizeOf3
  v3 := Tryz.zeroValue3
  t4 := Tryz.underlying4
  a4 := Tryz.isAgg4
  z4 := Tryz.sizeOf4
  v4 := Tryz.zeroValue4
  t5 := Tryz.underlying5
  a5 := Tryz.isAgg5
  z5 := Tryz.sizeOf5
  v5 := Tryz.zeroValue5
  t9 := Tryz.underlying9
  a9 := Tryz.isAgg9
  z9 := Tryz.sizeOf9
  v9 := Tryz.zeroValue9
  t26 := Tryz.underlying62
  a26 := Tryz.isAgg62
  z26 := Tryz.sizeOf62
  v26 := Tryz.zeroValue62
  t27 := Tryz.underlying62
  a27 := Tryz.isAgg62
  z27 := Tryz.sizeOf62
  v27 := Tryz.zeroValue62
  t29 := Tryz.underlying9
  a29 := Tryz.isAgg9
  z29 := Tryz.sizeOf9
  v29 := Tryz.zeroValue9
  t32 := Tryz.underlying96
  a32 := Tryz.isAgg96
  z32 := Tryz.sizeOf96
  v32 := Tryz.zeroValue96
  t35 := Tryz.underlying131
  a35 := Tryz.isAgg131
  z35 := Tryz.sizeOf131
  v35 := Tryz.zeroValue131
  t36 := Tryz.underlying132
  a36 := Tryz.isAgg132
  z36 := Tryz.sizeOf132
  v36 := Tryz.zeroValue132
  t41 := Tryz.underlying136
  a41 := Tryz.isAgg136
  z41 := Tryz.sizeOf136
  v41 := Tryz.zeroValue136
  t44 := Tryz.underlying69
  a44 := Tryz.isAgg69
  z44 := Tryz.sizeOf69
  v44 := Tryz.zeroValue69
  t46 := Tryz.underlying23
  a46 := Tryz.isAgg23
  z46 := Tryz.sizeOf23
  v46 := Tryz.zeroValue23
  t53 := Tryz.underlying140
  a53 := Tryz.isAgg140
  z53 := Tryz.sizeOf140
  v53 := Tryz.zeroValue140
  t57 := Tryz.underlying143
  a57 := Tryz.isAgg143
  z57 := Tryz.sizeOf143
  v57 := Tryz.zeroValue143
  t63 := Tryz.underlying154
  a63 := Tryz.isAgg154
  z63 := Tryz.sizeOf154
  v63 := Tryz.zeroValue154
  t64 := Tryz.underlying155
  a64 := Tryz.isAgg155
  z64 := Tryz.sizeOf155
  v64 := Tryz.zeroValue155 }

/-- slices.Sort's two contracts at this program. -/
theorem Tryz.sorts60 (m : Nat) : AnyZ.SortsIn Tryz.prog Tryz.sorted60_ren Fence.wide m :=
  ⟨fun blk off cap ss W hH hblk hsz => callsIn_wide.2 (AnyM.slices_Sort_string Tryz.sort71 blk off cap ss W hH hblk hsz),
   fun p cap W => callsIn_wide.2 (AnyM.slices_Sort_string_none Tryz.sort71 p cap W)⟩

/-- slices.Sorted at what maps.Keys handed back, wherever the box lies. -/
theorem Tryz.sortsKeys : Go.Ai.SortsKeys Tryz.prog 60 72 9 := by
  intro w bx b nn D0 hbx hcell hown hmax hbytes
  have hseq : SeqGives Fence.wide 2 Tryz.prog 72 #[.pointer (some ⟨bx, 0, none⟩)] encStr (fun ss => ss.Perm (strKeys D0)) (Maps.size D0) w :=
    AnyZ.keys_gives (ρ := Tryz.keys61_ren) { Tryz.keys61 with } Fence.wide _ trivial rfl (by omega) bx b nn D0 _ hbx hcell hown
  exact (callsIn_wide (n := 5)).1 (AnyZ.sorted_in Tryz.sorted60 Fence.wide 5 trivial trivial trivial trivial rfl (by omega) (Tryz.sorts60 _) (enters_of Tryz.func71 (by kernel_rfl) rfl) 72 #[.pointer (some ⟨bx, 0, none⟩)] trivial (enters_of Tryz.func72 (by kernel_rfl) rfl) _ _ hmax hbytes _ hseq)

end Go.Proofs
