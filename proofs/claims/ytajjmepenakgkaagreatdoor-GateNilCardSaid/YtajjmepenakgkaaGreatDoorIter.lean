/- slices.Sorted(maps.Keys(m)) at this program: the shelf's contracts laid, in plain words. -/
import Derived.Shelf.SlIter.Nil
import Derived.Shelf.SortM.Plain
import Derived.Shelf.SortM.SortNone
import Derived.Ground.GgzProg
import Derived.Ground.SlgmProg
import Derived.Test.YtajjmepenakgkaaGreatDoorProg
import Derived.Test.YtajjmepenakgkaaGreatDoorAe
namespace Go.Proofs
open Go.RowKit Go.Maps Go.Sort Go.Shelf

def Tryz.keys102_ren : Go.Shelf.Ren := ⟨fun | 7 => 102 | 10 => 159 | n => n, fun | 23 => 113 | 26 => 9 | 3 => 119 | 28 => 184 | 0 => 0 | 27 => 183 | 33 => 255 | 4 => 4 | n => n, fun | n => n⟩
theorem Tryz.keys102 : Go.Proofs.SlLaysZ.n7 Tryz.prog Tryz.keys102_ren := {
  mixed := by kernel_rfl
  f7 := ⟨Tryz.f102.name, by decide, Tryz.func102.trans (congrArg some (by kernel_rfl))⟩
  f10 := ⟨Tryz.f159.name, by decide, Tryz.func159.trans (congrArg some (by kernel_rfl))⟩
  t0 := Tryz.underlying0
  a0 := Tryz.isAgg0
  z0 := Tryz.sizeOf0
  v0 := Tryz.zeroValue0
  t4 := Tryz.underlying4
  a4 := Tryz.isAgg4
  z4 := Tryz.sizeOf4
  v4 := Tryz.zeroValue4
  t23 := Tryz.underlying113
  a23 := Tryz.isAgg113
  z23 := Tryz.sizeOf113
  v23 := Tryz.zeroValue113
  t26 := Tryz.underlying9
  a26 := Tryz.isAgg9
  z26 := Tryz.sizeOf9
  v26 := Tryz.zeroValue9
  t27 := Tryz.underlying183
  a27 := Tryz.isAgg183
  z27 := Tryz.sizeOf183
  v27 := Tryz.zeroValue183
  t28 := Tryz.underlying184
  a28 := Tryz.isAgg184
  z28 := Tryz.sizeOf184
  v28 := Tryz.zeroValue184
  t33 := Tryz.underlying255
  a33 := Tryz.isAgg255
  z33 := Tryz.sizeOf255
  v33 := Tryz.zeroValue255 }
def Tryz.sorted101_ren : Go.Shelf.Ren := ⟨fun | 6 => 101 | 8 => 157 | 9 => 158 | 11 => 215 | 13 => 217 | 12 => 216 | 23 => 268 | 24 => 184 | 14 => 259 | 15 => 260 | 16 => 261 | 17 => 262 | 18 => 263 | 19 => 264 | 20 => 265 | 21 => 266 | 22 => 267 | 25 => 305 | 26 => 306 | 27 => 307 | 28 => 308 | 29 => 309 | 30 => 310 | 31 => 349 | n => n, fun | 26 => 9 | 28 => 184 | 24 => 117 | 0 => 0 | 3 => 3 | 37 => 229 | 48 => 23 | 50 => 24 | 4 => 4 | 40 => 369 | 39 => 368 | 45 => 374 | 5 => 5 | 9 => 9 | 51 => 422 | 55 => 425 | 57 => 463 | 58 => 464 | 33 => 255 | n => n, fun | n => n⟩
theorem Tryz.sorted101 : Go.Proofs.SlLaysZ.n6 Tryz.prog Tryz.sorted101_ren := {
  mixed := by kernel_rfl
  f6 := ⟨Tryz.f101.name, by decide, Tryz.func101.trans (congrArg some (by kernel_rfl))⟩
  f8 := ⟨Tryz.f157.name, by decide, Tryz.func157.trans (congrArg some (by kernel_rfl))⟩
  f11 := ⟨Tryz.f215.name, by decide, Tryz.func215.trans (congrArg some (by kernel_rfl))⟩
  t0 := Tryz.underlying0
  a0 := Tryz.isAgg0
  z0 := Tryz.sizeOf0
  v0 := Tryz.zeroValue0
  t24 := Tryz.underlying117
  a24 := Tryz.isAgg117
  z24 := Tryz.sizeOf117
  v24 := Tryz.zeroValue117
  t26 := Tryz.underlying9
  a26 := Tryz.isAgg9
  z26 := Tryz.sizeOf9
  v26 := Tryz.zeroValue9
  t28 := Tryz.underlying184
  a28 := Tryz.isAgg184
  z28 := Tryz.sizeOf184
  v28 := Tryz.zeroValue184
  i26 := by kernel_rfl }
def Tryz.sort158_ren : Go.Shelf.Ren := ⟨fun | 6 => 158 | 8 => 217 | 9 => 216 | 19 => 268 | 20 => 184 | 21 => 259 | 22 => 260 | 23 => 261 | 24 => 262 | 25 => 263 | 26 => 264 | 27 => 265 | 28 => 266 | 29 => 267 | 36 => 305 | 31 => 306 | 32 => 307 | 37 => 308 | 38 => 309 | 39 => 310 | 41 => 349 | n => n, fun | 27 => 117 | 29 => 9 | 3 => 3 | 32 => 229 | 26 => 117 | 0 => 0 | 44 => 23 | 46 => 24 | 4 => 4 | 36 => 369 | 35 => 368 | 41 => 374 | 5 => 5 | 9 => 9 | 53 => 422 | 57 => 425 | 63 => 463 | 64 => 464 | n => n, fun | n => n⟩
theorem Tryz.sort158 : Go.Proofs.SlLaysM.n6 Tryz.prog Tryz.sort158_ren := {
  mixed := by kernel_rfl
  f6 := ⟨Tryz.f158.name, by decide, Tryz.func158.trans (congrArg some (by kernel_rfl))⟩
  f8 := Tryz.func217.trans (congrArg some (by kernel_rfl))
  f9 := ⟨Tryz.f216.name, by decide, Tryz.func216.trans (congrArg some (by kernel_rfl))⟩
  f19 := Tryz.func268.trans (congrArg some (by kernel_rfl))
  f20 := Tryz.func184.trans (congrArg some (by kernel_rfl))
  f21 := ⟨Tryz.f259.name, by decide, Tryz.func259.trans (congrArg some (by kernel_rfl))⟩
  f22 := ⟨Tryz.f260.name, by decide, Tryz.func260.trans (congrArg some (by kernel_rfl))⟩
  f23 := ⟨Tryz.f261.name, by decide, Tryz.func261.trans (congrArg some (by kernel_rfl))⟩
  f24 := ⟨Tryz.f262.name, by decide, Tryz.func262.trans (congrArg some (by kernel_rfl))⟩
  f25 := ⟨Tryz.f263.name, by decide, Tryz.func263.trans (congrArg some (by kernel_rfl))⟩
  f26 := ⟨Tryz.f264.name, by decide, Tryz.func264.trans (congrArg some (by kernel_rfl))⟩
  f27 := ⟨Tryz.f265.name, by decide, Tryz.func265.trans (congrArg some (by kernel_rfl))⟩
  f28 := ⟨Tryz.f266.name, by decide, Tryz.func266.trans (congrArg some (by kernel_rfl))⟩
  f29 := ⟨Tryz.f267.name, by decide, Tryz.func267.trans (congrArg some (by kernel_rfl))⟩
  f31 := Tryz.func306.trans (congrArg some (by kernel_rfl))
  f32 := Tryz.func307.trans (congrArg some (by kernel_rfl))
  f36 := ⟨Tryz.f305.name, by decide, Tryz.func305.trans (congrArg some (by kernel_rfl))⟩
  f37 := ⟨Tryz.f308.name, by decide, Tryz.func308.trans (congrArg some (by kernel_rfl))⟩
  f38 := ⟨Tryz.f309.name, by decide, Tryz.func309.trans (congrArg some (by kernel_rfl))⟩
  f39 := ⟨Tryz.f310.name, by decide, Tryz.func310.trans (congrArg some (by kernel_rfl))⟩
  f41 := ⟨Tryz.f349.name, by decide, Tryz.func349.trans (congrArg some (by kernel_rfl))⟩
  t0 := Tryz.underlying0
  a0 := Tryz.isAgg0
  z0 := Tryz.sizeOf0
  v0 := Tryz.zeroValue0
  t3 := Tryz.underlying3
  a3 := Tryz.isAgg3
  z3 := Tryz.sizeOf3
  v3 := Tryz.zeroValue3
  t4 := Tryz.underlying4
  a4 := Tryz.isAgg4
  z4 := Tryz.sizeOf4
  v4 := Tryz.zeroValue4
  t5 := Tryz.underlying5
  a5 := Tryz.isAgg5
  z5 := Tryz.sizeOf5
  v5 := Tryz.zeroValue5
  t9 := Tryz.underlying9
  a9 := Tryz.isAgg9
  z9 := Tryz.sizeOf9
  v9 := Tryz.zeroValue9
  t26 := Tryz.underlying117
  a26 := Tryz.isAgg117
  z26 := Tryz.sizeOf117
  v26 := Tryz.zeroValue117
  t27 := Tryz.underlying117
  a27 := Tryz.isAgg117
  z27 := Tryz.sizeOf117
  v27 := Tryz.zeroValue117
  t29 := Tryz.underlying9
  a29 := Tryz.isAgg9
  z29 := Tryz.sizeOf9
  v29 := Tryz.zeroValue9
  t32 := Tryz.underlying229
  a32 := Tryz.isAgg229
  z32 := Tryz.sizeOf229
  v32 := Tryz.zeroValue229
  t35 := Tryz.underlying368
  a35 := Tryz.isAgg368
  z35 := Tryz.sizeOf368
  v35 := Tryz.zeroValue368
  t36 := Tryz.underlying369
  a36 := Tryz.isAgg369
  z36 := Tryz.sizeOf369
  v36 := Tryz.zeroValue369
  t41 := Tryz.underlying374
  a41 := Tryz.isAgg374
  z41 := Tryz.sizeOf374
  v41 := Tryz.zeroValue374
  t44 := Tryz.underlying23
  a44 := Tryz.isAgg23
  z44 := Tryz.sizeOf23
  v44 := Tryz.zeroValue23
  t46 := Tryz.underlying24
  a46 := Tryz.isAgg24
  z46 := Tryz.sizeOf24
  v46 := Tryz.zeroValue24
  t53 := Tryz.underlying422
  a53 := Tryz.isAgg422
  z53 := Tryz.sizeOf422
  v53 := Tryz.zeroValue422
  t57 := Tryz.underlying425
  a57 := Tryz.isAgg425
  z57 := Tryz.sizeOf425
  v57 := Tryz.zeroValue425
  t63 := Tryz.underlying463
  a63 := Tryz.isAgg463
  z63 := Tryz.sizeOf463
  v63 := Tryz.zeroValue463
  t64 := Tryz.underlying464
  a64 := Tryz.isAgg464
  z64 := Tryz.sizeOf464
  v64 := Tryz.zeroValue464 }

/-- slices.Sort's two contracts at this program. -/
theorem Tryz.sorts101 (m : Nat) : AnyZ.SortsIn Tryz.prog Tryz.sorted101_ren Fence.wide m :=
  ⟨fun blk off cap ss W hH hblk hsz => callsIn_wide.2 (AnyM.slices_Sort_string Tryz.sort158 blk off cap ss W hH hblk hsz),
   fun p cap W => callsIn_wide.2 (AnyM.slices_Sort_string_none Tryz.sort158 p cap W)⟩

/-- slices.Sorted at what maps.Keys handed back, wherever the box lies. -/
theorem Tryz.sortsKeys : Go.Ai.SortsKeys Tryz.prog 101 159 9 := by
  intro w bx b nn D0 hbx hcell hown hmax hbytes
  have hseq : SeqGives Fence.wide 2 Tryz.prog 159 #[.pointer (some ⟨bx, 0, none⟩)] encStr (fun ss => ss.Perm (strKeys D0)) (Maps.size D0) w :=
    AnyZ.keys_gives (ρ := Tryz.keys102_ren) { Tryz.keys102 with } Fence.wide _ trivial rfl (by omega) bx b nn D0 _ hbx hcell hown
  exact (callsIn_wide (n := 5)).1 (AnyZ.sorted_in Tryz.sorted101 Fence.wide 5 trivial trivial trivial trivial rfl (by omega) (Tryz.sorts101 _) (enters_of Tryz.func158 (by kernel_rfl) rfl) 159 #[.pointer (some ⟨bx, 0, none⟩)] trivial (enters_of Tryz.func159 (by kernel_rfl) rfl) _ _ hmax hbytes _ hseq)

end Go.Proofs
