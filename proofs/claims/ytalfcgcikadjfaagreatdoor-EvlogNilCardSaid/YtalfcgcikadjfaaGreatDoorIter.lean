/- slices.Sorted(maps.Keys(m)) at this program: the shelf's contracts laid, in plain words. -/
import Derived.Shelf.SlIter.Nil
import Derived.Shelf.SortM.Plain
import Derived.Shelf.SortM.SortNone
import Derived.Ground.GgzProg
import Derived.Ground.SlgmProg
import Derived.Test.YtalfcgcikadjfaaGreatDoorProg
import Derived.Test.YtalfcgcikadjfaaGreatDoorAe
namespace Go.Proofs
open Go.RowKit Go.Maps Go.Sort Go.Shelf

def Tryz.keys94_ren : Go.Shelf.Ren := ⟨fun | 7 => 94 | 10 => 139 | n => n, fun | 23 => 115 | 26 => 9 | 3 => 120 | 28 => 167 | 0 => 0 | 27 => 166 | 33 => 169 | 4 => 4 | n => n, fun | n => n⟩
theorem Tryz.keys94 : Go.Proofs.SlLaysZ.n7 Tryz.prog Tryz.keys94_ren := {
  mixed := by kernel_rfl
  f7 := ⟨Tryz.f94.name, by decide, Tryz.func94.trans (congrArg some (by kernel_rfl))⟩
  f10 := ⟨Tryz.f139.name, by decide, Tryz.func139.trans (congrArg some (by kernel_rfl))⟩
  t0 := Tryz.underlying0
  a0 := Tryz.isAgg0
  z0 := Tryz.sizeOf0
  v0 := Tryz.zeroValue0
  t4 := Tryz.underlying4
  a4 := Tryz.isAgg4
  z4 := Tryz.sizeOf4
  v4 := Tryz.zeroValue4
  t23 := Tryz.underlying115
  a23 := Tryz.isAgg115
  z23 := Tryz.sizeOf115
  v23 := Tryz.zeroValue115
  t26 := Tryz.underlying9
  a26 := Tryz.isAgg9
  z26 := Tryz.sizeOf9
  v26 := Tryz.zeroValue9
  t27 := Tryz.underlying166
  a27 := Tryz.isAgg166
  z27 := Tryz.sizeOf166
  v27 := Tryz.zeroValue166
  t28 := Tryz.underlying167
  a28 := Tryz.isAgg167
  z28 := Tryz.sizeOf167
  v28 := Tryz.zeroValue167
  t33 := Tryz.underlying169
  a33 := Tryz.isAgg169
  z33 := Tryz.sizeOf169
  v33 := Tryz.zeroValue169 }
def Tryz.sorted93_ren : Go.Shelf.Ren := ⟨fun | 6 => 93 | 8 => 137 | 9 => 138 | 11 => 181 | 13 => 123 | 12 => 182 | 23 => 168 | 24 => 153 | 14 => 208 | 15 => 209 | 16 => 210 | 17 => 211 | 18 => 212 | 19 => 213 | 20 => 214 | 21 => 215 | 22 => 216 | 25 => 230 | 26 => 196 | 27 => 197 | 28 => 231 | 29 => 232 | 30 => 233 | 31 => 241 | n => n, fun | 26 => 9 | 28 => 167 | 24 => 118 | 0 => 0 | 3 => 3 | 37 => 178 | 48 => 22 | 50 => 23 | 4 => 4 | 40 => 234 | 39 => 233 | 45 => 239 | 5 => 5 | 9 => 9 | 51 => 267 | 55 => 270 | 57 => 292 | 58 => 293 | 33 => 169 | n => n, fun | n => n⟩
theorem Tryz.sorted93 : Go.Proofs.SlLaysZ.n6 Tryz.prog Tryz.sorted93_ren := {
  mixed := by kernel_rfl
  f6 := ⟨Tryz.f93.name, by decide, Tryz.func93.trans (congrArg some (by kernel_rfl))⟩
  f8 := ⟨Tryz.f137.name, by decide, Tryz.func137.trans (congrArg some (by kernel_rfl))⟩
  f11 := ⟨Tryz.f181.name, by decide, Tryz.func181.trans (congrArg some (by kernel_rfl))⟩
  t0 := Tryz.underlying0
  a0 := Tryz.isAgg0
  z0 := Tryz.sizeOf0
  v0 := Tryz.zeroValue0
  t24 := Tryz.underlying118
  a24 := Tryz.isAgg118
  z24 := Tryz.sizeOf118
  v24 := Tryz.zeroValue118
  t26 := Tryz.underlying9
  a26 := Tryz.isAgg9
  z26 := Tryz.sizeOf9
  v26 := Tryz.zeroValue9
  t28 := Tryz.underlying167
  a28 := Tryz.isAgg167
  z28 := Tryz.sizeOf167
  v28 := Tryz.zeroValue167
  i26 := by kernel_rfl }
def Tryz.sort138_ren : Go.Shelf.Ren := ⟨fun | 6 => 138 | 8 => 123 | 9 => 182 | 19 => 168 | 20 => 153 | 21 => 208 | 22 => 209 | 23 => 210 | 24 => 211 | 25 => 212 | 26 => 213 | 27 => 214 | 28 => 215 | 29 => 216 | 36 => 230 | 31 => 196 | 32 => 197 | 37 => 231 | 38 => 232 | 39 => 233 | 41 => 241 | n => n, fun | 27 => 118 | 29 => 9 | 3 => 3 | 32 => 178 | 26 => 118 | 0 => 0 | 44 => 22 | 46 => 23 | 4 => 4 | 36 => 234 | 35 => 233 | 41 => 239 | 5 => 5 | 9 => 9 | 53 => 267 | 57 => 270 | 63 => 292 | 64 => 293 | n => n, fun | n => n⟩
theorem Tryz.sort138 : Go.Proofs.SlLaysM.n6 Tryz.prog Tryz.sort138_ren := {
  mixed := by kernel_rfl
  f6 := ⟨Tryz.f138.name, by decide, Tryz.func138.trans (congrArg some (by kernel_rfl))⟩
  f8 := Tryz.func123.trans (congrArg some (by kernel_rfl))
  f9 := ⟨Tryz.f182.name, by decide, Tryz.func182.trans (congrArg some (by kernel_rfl))⟩
  f19 := Tryz.func168.trans (congrArg some (by kernel_rfl))
  f20 := Tryz.func153.trans (congrArg some (by kernel_rfl))
  f21 := ⟨Tryz.f208.name, by decide, Tryz.func208.trans (congrArg some (by kernel_rfl))⟩
  f22 := ⟨Tryz.f209.name, by decide, Tryz.func209.trans (congrArg some (by kernel_rfl))⟩
  f23 := ⟨Tryz.f210.name, by decide, Tryz.func210.trans (congrArg some (by kernel_rfl))⟩
  f24 := ⟨Tryz.f211.name, by decide, Tryz.func211.trans (congrArg some (by kernel_rfl))⟩
  f25 := ⟨Tryz.f212.name, by decide, Tryz.func212.trans (congrArg some (by kernel_rfl))⟩
  f26 := ⟨Tryz.f213.name, by decide, Tryz.func213.trans (congrArg some (by kernel_rfl))⟩
  f27 := ⟨Tryz.f214.name, by decide, Tryz.func214.trans (congrArg some (by kernel_rfl))⟩
  f28 := ⟨Tryz.f215.name, by decide, Tryz.func215.trans (congrArg some (by kernel_rfl))⟩
  f29 := ⟨Tryz.f216.name, by decide, Tryz.func216.trans (congrArg some (by kernel_rfl))⟩
  f31 := Tryz.func196.trans (congrArg some (by kernel_rfl))
  f32 := Tryz.func197.trans (congrArg some (by kernel_rfl))
  f36 := ⟨Tryz.f230.name, by decide, Tryz.func230.trans (congrArg some (by kernel_rfl))⟩
  f37 := ⟨Tryz.f231.name, by decide, Tryz.func231.trans (congrArg some (by kernel_rfl))⟩
  f38 := ⟨Tryz.f232.name, by decide, Tryz.func232.trans (congrArg some (by kernel_rfl))⟩
  f39 := ⟨Tryz.f233.name, by decide, Tryz.func233.trans (congrArg some (by kernel_rfl))⟩
  f41 := ⟨Tryz.f241.name, by decide, Tryz.func241.trans (congrArg some (by kernel_rfl))⟩
  t0 := Tryz.underlying0
  a0 := Tryz.isAgg0
  z0 := Tryz.sizeOf0
  v0 := Tryz.zeroValue0
  t3 := Tryz.underlying3
  a3 := Tryz.isAgg3
  z3 := Tryz.sizeOf3
  v3 := Tryz.zeroValue3
  t4 := Tryz.underlying4
  a4 := Tryz.isAgg4
  z4 := Tryz.sizeOf4
  v4 := Tryz.zeroValue4
  t5 := Tryz.underlying5
  a5 := Tryz.isAgg5
  z5 := Tryz.sizeOf5
  v5 := Tryz.zeroValue5
  t9 := Tryz.underlying9
  a9 := Tryz.isAgg9
  z9 := Tryz.sizeOf9
  v9 := Tryz.zeroValue9
  t26 := Tryz.underlying118
  a26 := Tryz.isAgg118
  z26 := Tryz.sizeOf118
  v26 := Tryz.zeroValue118
  t27 := Tryz.underlying118
  a27 := Tryz.isAgg118
  z27 := Tryz.sizeOf118
  v27 := Tryz.zeroValue118
  t29 := Tryz.underlying9
  a29 := Tryz.isAgg9
  z29 := Tryz.sizeOf9
  v29 := Tryz.zeroValue9
  t32 := Tryz.underlying178
  a32 := Tryz.isAgg178
  z32 := Tryz.sizeOf178
  v32 := Tryz.zeroValue178
  t35 := Tryz.underlying233
  a35 := Tryz.isAgg233
  z35 := Tryz.sizeOf233
  v35 := Tryz.zeroValue233
  t36 := Tryz.underlying234
  a36 := Tryz.isAgg234
  z36 := Tryz.sizeOf234
  v36 := Tryz.zeroValue234
  t41 := Tryz.underlying239
  a41 := Tryz.isAgg239
  z41 := Tryz.sizeOf239
  v41 := Tryz.zeroValue239
  t44 := Tryz.underlying22
  a44 := Tryz.isAgg22
  z44 := Tryz.sizeOf22
  v44 := Tryz.zeroValue22
  t46 := Tryz.underlying23
  a46 := Tryz.isAgg23
  z46 := Tryz.sizeOf23
  v46 := Tryz.zeroValue23
  t53 := Tryz.underlying267
  a53 := Tryz.isAgg267
  z53 := Tryz.sizeOf267
  v53 := Tryz.zeroValue267
  t57 := Tryz.underlying270
  a57 := Tryz.isAgg270
  z57 := Tryz.sizeOf270
  v57 := Tryz.zeroValue270
  t63 := Tryz.underlying292
  a63 := Tryz.isAgg292
  z63 := Tryz.sizeOf292
  v63 := Tryz.zeroValue292
  t64 := Tryz.underlying293
  a64 := Tryz.isAgg293
  z64 := Tryz.sizeOf293
  v64 := Tryz.zeroValue293 }

/-- slices.Sort's two contracts at this program. -/
theorem Tryz.sorts93 (m : Nat) : AnyZ.SortsIn Tryz.prog Tryz.sorted93_ren Fence.wide m :=
  ⟨fun blk off cap ss W hH hblk hsz => callsIn_wide.2 (AnyM.slices_Sort_string Tryz.sort138 blk off cap ss W hH hblk hsz),
   fun p cap W => callsIn_wide.2 (AnyM.slices_Sort_string_none Tryz.sort138 p cap W)⟩

/-- slices.Sorted at what maps.Keys handed back, wherever the box lies. -/
theorem Tryz.sortsKeys : Go.Ai.SortsKeys Tryz.prog 93 139 9 := by
  intro w bx b nn D0 hbx hcell hown hmax hbytes
  have hseq : SeqGives Fence.wide 2 Tryz.prog 139 #[.pointer (some ⟨bx, 0, none⟩)] encStr (fun ss => ss.Perm (strKeys D0)) (Maps.size D0) w :=
    AnyZ.keys_gives (ρ := Tryz.keys94_ren) { Tryz.keys94 with } Fence.wide _ trivial rfl (by omega) bx b nn D0 _ hbx hcell hown
  exact (callsIn_wide (n := 5)).1 (AnyZ.sorted_in Tryz.sorted93 Fence.wide 5 trivial trivial trivial trivial rfl (by omega) (Tryz.sorts93 _) (enters_of Tryz.func138 (by kernel_rfl) rfl) 139 #[.pointer (some ⟨bx, 0, none⟩)] trivial (enters_of Tryz.func139 (by kernel_rfl) rfl) _ _ hmax hbytes _ hseq)

end Go.Proofs
