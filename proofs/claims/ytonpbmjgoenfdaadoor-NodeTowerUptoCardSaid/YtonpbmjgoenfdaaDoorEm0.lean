/- The chain of the empty subtrees, levels 0 to 64: each step reckoned by the kernel. -/
import Derived.Test.YtonpbmjgoenfdaaDoorEm
namespace Go.Proofs.YtonpbmjgoenfdaaDoor
open Go
theorem v0 : (emD begin8 roundT 32 0).1 = e0 := em_first (by decide +kernel)
theorem s1 : shaD begin8.list roundT (1 :: (e0 ++ e0)) = e1 := by decide +kernel
theorem s2 : shaD begin8.list roundT (1 :: (e1 ++ e1)) = e2 := by decide +kernel
theorem s3 : shaD begin8.list roundT (1 :: (e2 ++ e2)) = e3 := by decide +kernel
theorem s4 : shaD begin8.list roundT (1 :: (e3 ++ e3)) = e4 := by decide +kernel
theorem s5 : shaD begin8.list roundT (1 :: (e4 ++ e4)) = e5 := by decide +kernel
theorem s6 : shaD begin8.list roundT (1 :: (e5 ++ e5)) = e6 := by decide +kernel
theorem s7 : shaD begin8.list roundT (1 :: (e6 ++ e6)) = e7 := by decide +kernel
theorem s8 : shaD begin8.list roundT (1 :: (e7 ++ e7)) = e8 := by decide +kernel
theorem s9 : shaD begin8.list roundT (1 :: (e8 ++ e8)) = e9 := by decide +kernel
theorem s10 : shaD begin8.list roundT (1 :: (e9 ++ e9)) = e10 := by decide +kernel
theorem s11 : shaD begin8.list roundT (1 :: (e10 ++ e10)) = e11 := by decide +kernel
theorem s12 : shaD begin8.list roundT (1 :: (e11 ++ e11)) = e12 := by decide +kernel
theorem s13 : shaD begin8.list roundT (1 :: (e12 ++ e12)) = e13 := by decide +kernel
theorem s14 : shaD begin8.list roundT (1 :: (e13 ++ e13)) = e14 := by decide +kernel
theorem s15 : shaD begin8.list roundT (1 :: (e14 ++ e14)) = e15 := by decide +kernel
theorem s16 : shaD begin8.list roundT (1 :: (e15 ++ e15)) = e16 := by decide +kernel
theorem s17 : shaD begin8.list roundT (1 :: (e16 ++ e16)) = e17 := by decide +kernel
theorem s18 : shaD begin8.list roundT (1 :: (e17 ++ e17)) = e18 := by decide +kernel
theorem s19 : shaD begin8.list roundT (1 :: (e18 ++ e18)) = e19 := by decide +kernel
theorem s20 : shaD begin8.list roundT (1 :: (e19 ++ e19)) = e20 := by decide +kernel
theorem s21 : shaD begin8.list roundT (1 :: (e20 ++ e20)) = e21 := by decide +kernel
theorem s22 : shaD begin8.list roundT (1 :: (e21 ++ e21)) = e22 := by decide +kernel
theorem s23 : shaD begin8.list roundT (1 :: (e22 ++ e22)) = e23 := by decide +kernel
theorem s24 : shaD begin8.list roundT (1 :: (e23 ++ e23)) = e24 := by decide +kernel
theorem s25 : shaD begin8.list roundT (1 :: (e24 ++ e24)) = e25 := by decide +kernel
theorem s26 : shaD begin8.list roundT (1 :: (e25 ++ e25)) = e26 := by decide +kernel
theorem s27 : shaD begin8.list roundT (1 :: (e26 ++ e26)) = e27 := by decide +kernel
theorem s28 : shaD begin8.list roundT (1 :: (e27 ++ e27)) = e28 := by decide +kernel
theorem s29 : shaD begin8.list roundT (1 :: (e28 ++ e28)) = e29 := by decide +kernel
theorem s30 : shaD begin8.list roundT (1 :: (e29 ++ e29)) = e30 := by decide +kernel
theorem s31 : shaD begin8.list roundT (1 :: (e30 ++ e30)) = e31 := by decide +kernel
theorem s32 : shaD begin8.list roundT (1 :: (e31 ++ e31)) = e32 := by decide +kernel
theorem s33 : shaD begin8.list roundT (1 :: (e32 ++ e32)) = e33 := by decide +kernel
theorem s34 : shaD begin8.list roundT (1 :: (e33 ++ e33)) = e34 := by decide +kernel
theorem s35 : shaD begin8.list roundT (1 :: (e34 ++ e34)) = e35 := by decide +kernel
theorem s36 : shaD begin8.list roundT (1 :: (e35 ++ e35)) = e36 := by decide +kernel
theorem s37 : shaD begin8.list roundT (1 :: (e36 ++ e36)) = e37 := by decide +kernel
theorem s38 : shaD begin8.list roundT (1 :: (e37 ++ e37)) = e38 := by decide +kernel
theorem s39 : shaD begin8.list roundT (1 :: (e38 ++ e38)) = e39 := by decide +kernel
theorem s40 : shaD begin8.list roundT (1 :: (e39 ++ e39)) = e40 := by decide +kernel
theorem s41 : shaD begin8.list roundT (1 :: (e40 ++ e40)) = e41 := by decide +kernel
theorem s42 : shaD begin8.list roundT (1 :: (e41 ++ e41)) = e42 := by decide +kernel
theorem s43 : shaD begin8.list roundT (1 :: (e42 ++ e42)) = e43 := by decide +kernel
theorem s44 : shaD begin8.list roundT (1 :: (e43 ++ e43)) = e44 := by decide +kernel
theorem s45 : shaD begin8.list roundT (1 :: (e44 ++ e44)) = e45 := by decide +kernel
theorem s46 : shaD begin8.list roundT (1 :: (e45 ++ e45)) = e46 := by decide +kernel
theorem s47 : shaD begin8.list roundT (1 :: (e46 ++ e46)) = e47 := by decide +kernel
theorem s48 : shaD begin8.list roundT (1 :: (e47 ++ e47)) = e48 := by decide +kernel
theorem s49 : shaD begin8.list roundT (1 :: (e48 ++ e48)) = e49 := by decide +kernel
theorem s50 : shaD begin8.list roundT (1 :: (e49 ++ e49)) = e50 := by decide +kernel
theorem s51 : shaD begin8.list roundT (1 :: (e50 ++ e50)) = e51 := by decide +kernel
theorem s52 : shaD begin8.list roundT (1 :: (e51 ++ e51)) = e52 := by decide +kernel
theorem s53 : shaD begin8.list roundT (1 :: (e52 ++ e52)) = e53 := by decide +kernel
theorem s54 : shaD begin8.list roundT (1 :: (e53 ++ e53)) = e54 := by decide +kernel
theorem s55 : shaD begin8.list roundT (1 :: (e54 ++ e54)) = e55 := by decide +kernel
theorem s56 : shaD begin8.list roundT (1 :: (e55 ++ e55)) = e56 := by decide +kernel
theorem s57 : shaD begin8.list roundT (1 :: (e56 ++ e56)) = e57 := by decide +kernel
theorem s58 : shaD begin8.list roundT (1 :: (e57 ++ e57)) = e58 := by decide +kernel
theorem s59 : shaD begin8.list roundT (1 :: (e58 ++ e58)) = e59 := by decide +kernel
theorem s60 : shaD begin8.list roundT (1 :: (e59 ++ e59)) = e60 := by decide +kernel
theorem s61 : shaD begin8.list roundT (1 :: (e60 ++ e60)) = e61 := by decide +kernel
theorem s62 : shaD begin8.list roundT (1 :: (e61 ++ e61)) = e62 := by decide +kernel
theorem s63 : shaD begin8.list roundT (1 :: (e62 ++ e62)) = e63 := by decide +kernel
theorem s64 : shaD begin8.list roundT (1 :: (e63 ++ e63)) = e64 := by decide +kernel
theorem c0 (h : (emD begin8 roundT 32 0).1 = e0) : (emD begin8 roundT 32 63).1 = e63 ∧ (emD begin8 roundT 32 64).1 = e64 :=
  have h1 := em_next h s1
  have h2 := em_next h1 s2
  have h3 := em_next h2 s3
  have h4 := em_next h3 s4
  have h5 := em_next h4 s5
  have h6 := em_next h5 s6
  have h7 := em_next h6 s7
  have h8 := em_next h7 s8
  have h9 := em_next h8 s9
  have h10 := em_next h9 s10
  have h11 := em_next h10 s11
  have h12 := em_next h11 s12
  have h13 := em_next h12 s13
  have h14 := em_next h13 s14
  have h15 := em_next h14 s15
  have h16 := em_next h15 s16
  have h17 := em_next h16 s17
  have h18 := em_next h17 s18
  have h19 := em_next h18 s19
  have h20 := em_next h19 s20
  have h21 := em_next h20 s21
  have h22 := em_next h21 s22
  have h23 := em_next h22 s23
  have h24 := em_next h23 s24
  have h25 := em_next h24 s25
  have h26 := em_next h25 s26
  have h27 := em_next h26 s27
  have h28 := em_next h27 s28
  have h29 := em_next h28 s29
  have h30 := em_next h29 s30
  have h31 := em_next h30 s31
  have h32 := em_next h31 s32
  have h33 := em_next h32 s33
  have h34 := em_next h33 s34
  have h35 := em_next h34 s35
  have h36 := em_next h35 s36
  have h37 := em_next h36 s37
  have h38 := em_next h37 s38
  have h39 := em_next h38 s39
  have h40 := em_next h39 s40
  have h41 := em_next h40 s41
  have h42 := em_next h41 s42
  have h43 := em_next h42 s43
  have h44 := em_next h43 s44
  have h45 := em_next h44 s45
  have h46 := em_next h45 s46
  have h47 := em_next h46 s47
  have h48 := em_next h47 s48
  have h49 := em_next h48 s49
  have h50 := em_next h49 s50
  have h51 := em_next h50 s51
  have h52 := em_next h51 s52
  have h53 := em_next h52 s53
  have h54 := em_next h53 s54
  have h55 := em_next h54 s55
  have h56 := em_next h55 s56
  have h57 := em_next h56 s57
  have h58 := em_next h57 s58
  have h59 := em_next h58 s59
  have h60 := em_next h59 s60
  have h61 := em_next h60 s61
  have h62 := em_next h61 s62
  have h63 := em_next h62 s63
  have h64 := em_next h63 s64
  ⟨h63, h64⟩
end Go.Proofs.YtonpbmjgoenfdaaDoor
