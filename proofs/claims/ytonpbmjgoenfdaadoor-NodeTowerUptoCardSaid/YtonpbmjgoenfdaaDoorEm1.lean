/- The chain of the empty subtrees, levels 64 to 128: each step reckoned by the kernel. -/
import Derived.Test.YtonpbmjgoenfdaaDoorEm
namespace Go.Proofs.YtonpbmjgoenfdaaDoor
open Go
theorem s65 : shaD begin8.list roundT (1 :: (e64 ++ e64)) = e65 := by decide +kernel
theorem s66 : shaD begin8.list roundT (1 :: (e65 ++ e65)) = e66 := by decide +kernel
theorem s67 : shaD begin8.list roundT (1 :: (e66 ++ e66)) = e67 := by decide +kernel
theorem s68 : shaD begin8.list roundT (1 :: (e67 ++ e67)) = e68 := by decide +kernel
theorem s69 : shaD begin8.list roundT (1 :: (e68 ++ e68)) = e69 := by decide +kernel
theorem s70 : shaD begin8.list roundT (1 :: (e69 ++ e69)) = e70 := by decide +kernel
theorem s71 : shaD begin8.list roundT (1 :: (e70 ++ e70)) = e71 := by decide +kernel
theorem s72 : shaD begin8.list roundT (1 :: (e71 ++ e71)) = e72 := by decide +kernel
theorem s73 : shaD begin8.list roundT (1 :: (e72 ++ e72)) = e73 := by decide +kernel
theorem s74 : shaD begin8.list roundT (1 :: (e73 ++ e73)) = e74 := by decide +kernel
theorem s75 : shaD begin8.list roundT (1 :: (e74 ++ e74)) = e75 := by decide +kernel
theorem s76 : shaD begin8.list roundT (1 :: (e75 ++ e75)) = e76 := by decide +kernel
theorem s77 : shaD begin8.list roundT (1 :: (e76 ++ e76)) = e77 := by decide +kernel
theorem s78 : shaD begin8.list roundT (1 :: (e77 ++ e77)) = e78 := by decide +kernel
theorem s79 : shaD begin8.list roundT (1 :: (e78 ++ e78)) = e79 := by decide +kernel
theorem s80 : shaD begin8.list roundT (1 :: (e79 ++ e79)) = e80 := by decide +kernel
theorem s81 : shaD begin8.list roundT (1 :: (e80 ++ e80)) = e81 := by decide +kernel
theorem s82 : shaD begin8.list roundT (1 :: (e81 ++ e81)) = e82 := by decide +kernel
theorem s83 : shaD begin8.list roundT (1 :: (e82 ++ e82)) = e83 := by decide +kernel
theorem s84 : shaD begin8.list roundT (1 :: (e83 ++ e83)) = e84 := by decide +kernel
theorem s85 : shaD begin8.list roundT (1 :: (e84 ++ e84)) = e85 := by decide +kernel
theorem s86 : shaD begin8.list roundT (1 :: (e85 ++ e85)) = e86 := by decide +kernel
theorem s87 : shaD begin8.list roundT (1 :: (e86 ++ e86)) = e87 := by decide +kernel
theorem s88 : shaD begin8.list roundT (1 :: (e87 ++ e87)) = e88 := by decide +kernel
theorem s89 : shaD begin8.list roundT (1 :: (e88 ++ e88)) = e89 := by decide +kernel
theorem s90 : shaD begin8.list roundT (1 :: (e89 ++ e89)) = e90 := by decide +kernel
theorem s91 : shaD begin8.list roundT (1 :: (e90 ++ e90)) = e91 := by decide +kernel
theorem s92 : shaD begin8.list roundT (1 :: (e91 ++ e91)) = e92 := by decide +kernel
theorem s93 : shaD begin8.list roundT (1 :: (e92 ++ e92)) = e93 := by decide +kernel
theorem s94 : shaD begin8.list roundT (1 :: (e93 ++ e93)) = e94 := by decide +kernel
theorem s95 : shaD begin8.list roundT (1 :: (e94 ++ e94)) = e95 := by decide +kernel
theorem s96 : shaD begin8.list roundT (1 :: (e95 ++ e95)) = e96 := by decide +kernel
theorem s97 : shaD begin8.list roundT (1 :: (e96 ++ e96)) = e97 := by decide +kernel
theorem s98 : shaD begin8.list roundT (1 :: (e97 ++ e97)) = e98 := by decide +kernel
theorem s99 : shaD begin8.list roundT (1 :: (e98 ++ e98)) = e99 := by decide +kernel
theorem s100 : shaD begin8.list roundT (1 :: (e99 ++ e99)) = e100 := by decide +kernel
theorem s101 : shaD begin8.list roundT (1 :: (e100 ++ e100)) = e101 := by decide +kernel
theorem s102 : shaD begin8.list roundT (1 :: (e101 ++ e101)) = e102 := by decide +kernel
theorem s103 : shaD begin8.list roundT (1 :: (e102 ++ e102)) = e103 := by decide +kernel
theorem s104 : shaD begin8.list roundT (1 :: (e103 ++ e103)) = e104 := by decide +kernel
theorem s105 : shaD begin8.list roundT (1 :: (e104 ++ e104)) = e105 := by decide +kernel
theorem s106 : shaD begin8.list roundT (1 :: (e105 ++ e105)) = e106 := by decide +kernel
theorem s107 : shaD begin8.list roundT (1 :: (e106 ++ e106)) = e107 := by decide +kernel
theorem s108 : shaD begin8.list roundT (1 :: (e107 ++ e107)) = e108 := by decide +kernel
theorem s109 : shaD begin8.list roundT (1 :: (e108 ++ e108)) = e109 := by decide +kernel
theorem s110 : shaD begin8.list roundT (1 :: (e109 ++ e109)) = e110 := by decide +kernel
theorem s111 : shaD begin8.list roundT (1 :: (e110 ++ e110)) = e111 := by decide +kernel
theorem s112 : shaD begin8.list roundT (1 :: (e111 ++ e111)) = e112 := by decide +kernel
theorem s113 : shaD begin8.list roundT (1 :: (e112 ++ e112)) = e113 := by decide +kernel
theorem s114 : shaD begin8.list roundT (1 :: (e113 ++ e113)) = e114 := by decide +kernel
theorem s115 : shaD begin8.list roundT (1 :: (e114 ++ e114)) = e115 := by decide +kernel
theorem s116 : shaD begin8.list roundT (1 :: (e115 ++ e115)) = e116 := by decide +kernel
theorem s117 : shaD begin8.list roundT (1 :: (e116 ++ e116)) = e117 := by decide +kernel
theorem s118 : shaD begin8.list roundT (1 :: (e117 ++ e117)) = e118 := by decide +kernel
theorem s119 : shaD begin8.list roundT (1 :: (e118 ++ e118)) = e119 := by decide +kernel
theorem s120 : shaD begin8.list roundT (1 :: (e119 ++ e119)) = e120 := by decide +kernel
theorem s121 : shaD begin8.list roundT (1 :: (e120 ++ e120)) = e121 := by decide +kernel
theorem s122 : shaD begin8.list roundT (1 :: (e121 ++ e121)) = e122 := by decide +kernel
theorem s123 : shaD begin8.list roundT (1 :: (e122 ++ e122)) = e123 := by decide +kernel
theorem s124 : shaD begin8.list roundT (1 :: (e123 ++ e123)) = e124 := by decide +kernel
theorem s125 : shaD begin8.list roundT (1 :: (e124 ++ e124)) = e125 := by decide +kernel
theorem s126 : shaD begin8.list roundT (1 :: (e125 ++ e125)) = e126 := by decide +kernel
theorem s127 : shaD begin8.list roundT (1 :: (e126 ++ e126)) = e127 := by decide +kernel
theorem s128 : shaD begin8.list roundT (1 :: (e127 ++ e127)) = e128 := by decide +kernel
theorem c1 (h : (emD begin8 roundT 32 64).1 = e64) : (emD begin8 roundT 32 127).1 = e127 ∧ (emD begin8 roundT 32 128).1 = e128 :=
  have h65 := em_next h s65
  have h66 := em_next h65 s66
  have h67 := em_next h66 s67
  have h68 := em_next h67 s68
  have h69 := em_next h68 s69
  have h70 := em_next h69 s70
  have h71 := em_next h70 s71
  have h72 := em_next h71 s72
  have h73 := em_next h72 s73
  have h74 := em_next h73 s74
  have h75 := em_next h74 s75
  have h76 := em_next h75 s76
  have h77 := em_next h76 s77
  have h78 := em_next h77 s78
  have h79 := em_next h78 s79
  have h80 := em_next h79 s80
  have h81 := em_next h80 s81
  have h82 := em_next h81 s82
  have h83 := em_next h82 s83
  have h84 := em_next h83 s84
  have h85 := em_next h84 s85
  have h86 := em_next h85 s86
  have h87 := em_next h86 s87
  have h88 := em_next h87 s88
  have h89 := em_next h88 s89
  have h90 := em_next h89 s90
  have h91 := em_next h90 s91
  have h92 := em_next h91 s92
  have h93 := em_next h92 s93
  have h94 := em_next h93 s94
  have h95 := em_next h94 s95
  have h96 := em_next h95 s96
  have h97 := em_next h96 s97
  have h98 := em_next h97 s98
  have h99 := em_next h98 s99
  have h100 := em_next h99 s100
  have h101 := em_next h100 s101
  have h102 := em_next h101 s102
  have h103 := em_next h102 s103
  have h104 := em_next h103 s104
  have h105 := em_next h104 s105
  have h106 := em_next h105 s106
  have h107 := em_next h106 s107
  have h108 := em_next h107 s108
  have h109 := em_next h108 s109
  have h110 := em_next h109 s110
  have h111 := em_next h110 s111
  have h112 := em_next h111 s112
  have h113 := em_next h112 s113
  have h114 := em_next h113 s114
  have h115 := em_next h114 s115
  have h116 := em_next h115 s116
  have h117 := em_next h116 s117
  have h118 := em_next h117 s118
  have h119 := em_next h118 s119
  have h120 := em_next h119 s120
  have h121 := em_next h120 s121
  have h122 := em_next h121 s122
  have h123 := em_next h122 s123
  have h124 := em_next h123 s124
  have h125 := em_next h124 s125
  have h126 := em_next h125 s126
  have h127 := em_next h126 s127
  have h128 := em_next h127 s128
  ⟨h127, h128⟩
end Go.Proofs.YtonpbmjgoenfdaaDoor
