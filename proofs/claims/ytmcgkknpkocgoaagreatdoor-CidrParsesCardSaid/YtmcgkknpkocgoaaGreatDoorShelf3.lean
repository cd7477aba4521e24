/-
  DERIVED: THE SHELF's CONTRACTS AT THIS DUMP, IN PLAIN WORDS (tools/lay-plain.mjs out of 'TryzShelf3.lean', which tools/lay-shelf.mjs wrote): THE SAME DECLARATIONS UNDER THE SAME NAMES: 'import', 'namespace', 'open', 'def', 'theorem' AND NOTHING ELSE: no command of the shelf's: FOR A HAND-IN. Each laying: the table of numbers ('.._ren') and one theorem, a field a fact of the dump's own or the kernel's comparison; each contract: ONE APPLICATION.
-/
import Derived.Shelf.Bytes.SlTrim
import Derived.Test.YtmcgkknpkocgoaaGreatDoorProg
namespace Go.Proofs
open Go.Shelf
def Tryz.laysV6_ren : Go.Shelf.Ren := ⟨fun | 6 => 83 | 10 => 128 | 9 => 127 | 11 => 129 | 13 => 131 | 12 => 130 | 15 => 133 | 14 => 132 | 16 => 159 | 19 => 162 | 18 => 161 | 17 => 160 | 21 => 192 | 20 => 191 | n => n, fun | 22 => 39 | 9 => 9 | 3 => 3 | 4 => 4 | 5 => 5 | 28 => 139 | 27 => 138 | 0 => 0 | 31 => 142 | 21 => 21 | 33 => 163 | 36 => 217 | 37 => 116 | 40 => 220 | 39 => 219 | n => n, fun | 0 => 22 | 1 => 23 | n => n⟩
theorem Tryz.laysV6 : Go.Proofs.SlLaysV.n6 Tryz.prog Tryz.laysV6_ren := {
  mixed := by kernel_rfl
  f6 := Tryz.func83.trans (congrArg some (by kernel_rfl))
  f9 := Tryz.func127.trans (congrArg some (by kernel_rfl))
  f10 := Tryz.func128.trans (congrArg some (by kernel_rfl))
  f11 := Tryz.func129.trans (congrArg some (by kernel_rfl))
  f12 := Tryz.func130.trans (congrArg some (by kernel_rfl))
  f13 := Tryz.func131.trans (congrArg some (by kernel_rfl))
  f14 := Tryz.func132.trans (congrArg some (by kernel_rfl))
  f15 := Tryz.func133.trans (congrArg some (by kernel_rfl))
  f16 := Tryz.func159.trans (congrArg some (by kernel_rfl))
  f17 := Tryz.func160.trans (congrArg some (by kernel_rfl))
  f18 := Tryz.func161.trans (congrArg some (by kernel_rfl))
  f19 := Tryz.func162.trans (congrArg some (by kernel_rfl))
  f20 := Tryz.func191.trans (congrArg some (by kernel_rfl))
  f21 := Tryz.func192.trans (congrArg some (by kernel_rfl))
  t0 := Tryz.underlying0
  a0 := Tryz.isAgg0
  z0 := Tryz.sizeOf0
  v0 := Tryz.zeroValue0
  t3 := Tryz.underlying3
  a3 := Tryz.isAgg3
  z3 := Tryz.sizeOf3
  v3 := Tryz.zeroValue3
  t4 := Tryz.underlying4
  a4 := Tryz.isAgg4
  z4 := Tryz.sizeOf4
  v4 := Tryz.zeroValue4
  t5 := Tryz.underlying5
  a5 := Tryz.isAgg5
  z5 := Tryz.sizeOf5
  v5 := Tryz.zeroValue5
  t9 := Tryz.underlying9
  a9 := Tryz.isAgg9
  z9 := Tryz.sizeOf9
  v9 := Tryz.zeroValue9
  t21 := Tryz.underlying21
  a21 := Tryz.isAgg21
  z21 := Tryz.sizeOf21
  v21 := Tryz.zeroValue21
  t22 := Tryz.underlying39
  a22 := Tryz.isAgg39
  z22 := Tryz.sizeOf39
  v22 := Tryz.zeroValue39
  t27 := Tryz.underlying138
  a27 := Tryz.isAgg138
  z27 := Tryz.sizeOf138
  t28 := Tryz.underlying139
  a28 := Tryz.isAgg139
  z28 := Tryz.sizeOf139
  v28 := Tryz.zeroValue139
  t31 := Tryz.underlying142
  a31 := Tryz.isAgg142
  z31 := Tryz.sizeOf142
  v31 := Tryz.zeroValue142
  t33 := Tryz.underlying163
  a33 := Tryz.isAgg163
  z33 := Tryz.sizeOf163
  v33 := Tryz.zeroValue163
  t36 := Tryz.underlying217
  a36 := Tryz.isAgg217
  z36 := Tryz.sizeOf217
  t37 := Tryz.underlying116
  a37 := Tryz.isAgg116
  z37 := Tryz.sizeOf116
  v37 := Tryz.zeroValue116
  t39 := Tryz.underlying219
  a39 := Tryz.isAgg219
  z39 := Tryz.sizeOf219
  v39 := Tryz.zeroValue219
  t40 := Tryz.underlying220
  a40 := Tryz.isAgg220
  z40 := Tryz.sizeOf220
  v40 := Tryz.zeroValue220 }
theorem Tryz.bytes_Trim_one (p : Option Addr) (n c : Nat) (bs : List UInt8) (cc : UInt8) (w : World) (hb : bs.length = n) (hnc : n ≤ c) (hbig : c ≤ 9223372036854775807) (h1 : Lib.BytesAt w p n bs) (h0 : 0 < n) (hc : cc.toNat < 128) :
    Calls Tryz.prog 83 #[.slice p n c, .string ⟨#[cc]⟩] w fun e w' => e = .returned (Lib.leftV p (Lib.trimRightS bs [cc]).length c ((Lib.trimRightS bs [cc]).length - (Lib.trimS bs [cc]).length)) ∧ ∃ q, w' = w.drewN q := Any.bytes_Trim_one Tryz.laysV6 p n c bs cc w hb hnc hbig h1 h0 hc
end Go.Proofs
