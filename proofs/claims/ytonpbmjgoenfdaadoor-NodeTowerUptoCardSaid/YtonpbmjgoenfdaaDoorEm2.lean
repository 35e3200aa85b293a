/- The chain of the empty subtrees, levels 128 to 192: each step reckoned by the kernel. -/
import Derived.Test.YtonpbmjgoenfdaaDoorEm
namespace Go.Proofs.YtonpbmjgoenfdaaDoor
open Go
theorem s129 : shaD begin8.list roundT (1 :: (e128 ++ e128)) = e129 := by decide +kernel
theorem s130 : shaD begin8.list roundT (1 :: (e129 ++ e129)) = e130 := by decide +kernel
theorem s131 : shaD begin8.list roundT (1 :: (e130 ++ e130)) = e131 := by decide +kernel
theorem s132 : shaD begin8.list roundT (1 :: (e131 ++ e131)) = e132 := by decide +kernel
theorem s133 : shaD begin8.list roundT (1 :: (e132 ++ e132)) = e133 := by decide +kernel
theorem s134 : shaD begin8.list roundT (1 :: (e133 ++ e133)) = e134 := by decide +kernel
theorem s135 : shaD begin8.list roundT (1 :: (e134 ++ e134)) = e135 := by decide +kernel
theorem s136 : shaD begin8.list roundT (1 :: (e135 ++ e135)) = e136 := by decide +kernel
theorem s137 : shaD begin8.list roundT (1 :: (e136 ++ e136)) = e137 := by decide +kernel
theorem s138 : shaD begin8.list roundT (1 :: (e137 ++ e137)) = e138 := by decide +kernel
theorem s139 : shaD begin8.list roundT (1 :: (e138 ++ e138)) = e139 := by decide +kernel
theorem s140 : shaD begin8.list roundT (1 :: (e139 ++ e139)) = e140 := by decide +kernel
theorem s141 : shaD begin8.list roundT (1 :: (e140 ++ e140)) = e141 := by decide +kernel
theorem s142 : shaD begin8.list roundT (1 :: (e141 ++ e141)) = e142 := by decide +kernel
theorem s143 : shaD begin8.list roundT (1 :: (e142 ++ e142)) = e143 := by decide +kernel
theorem s144 : shaD begin8.list roundT (1 :: (e143 ++ e143)) = e144 := by decide +kernel
theorem s145 : shaD begin8.list roundT (1 :: (e144 ++ e144)) = e145 := by decide +kernel
theorem s146 : shaD begin8.list roundT (1 :: (e145 ++ e145)) = e146 := by decide +kernel
theorem s147 : shaD begin8.list roundT (1 :: (e146 ++ e146)) = e147 := by decide +kernel
theorem s148 : shaD begin8.list roundT (1 :: (e147 ++ e147)) = e148 := by decide +kernel
theorem s149 : shaD begin8.list roundT (1 :: (e148 ++ e148)) = e149 := by decide +kernel
theorem s150 : shaD begin8.list roundT (1 :: (e149 ++ e149)) = e150 := by decide +kernel
theorem s151 : shaD begin8.list roundT (1 :: (e150 ++ e150)) = e151 := by decide +kernel
theorem s152 : shaD begin8.list roundT (1 :: (e151 ++ e151)) = e152 := by decide +kernel
theorem s153 : shaD begin8.list roundT (1 :: (e152 ++ e152)) = e153 := by decide +kernel
theorem s154 : shaD begin8.list roundT (1 :: (e153 ++ e153)) = e154 := by decide +kernel
theorem s155 : shaD begin8.list roundT (1 :: (e154 ++ e154)) = e155 := by decide +kernel
theorem s156 : shaD begin8.list roundT (1 :: (e155 ++ e155)) = e156 := by decide +kernel
theorem s157 : shaD begin8.list roundT (1 :: (e156 ++ e156)) = e157 := by decide +kernel
theorem s158 : shaD begin8.list roundT (1 :: (e157 ++ e157)) = e158 := by decide +kernel
theorem s159 : shaD begin8.list roundT (1 :: (e158 ++ e158)) = e159 := by decide +kernel
theorem s160 : shaD begin8.list roundT (1 :: (e159 ++ e159)) = e160 := by decide +kernel
theorem s161 : shaD begin8.list roundT (1 :: (e160 ++ e160)) = e161 := by decide +kernel
theorem s162 : shaD begin8.list roundT (1 :: (e161 ++ e161)) = e162 := by decide +kernel
theorem s163 : shaD begin8.list roundT (1 :: (e162 ++ e162)) = e163 := by decide +kernel
theorem s164 : shaD begin8.list roundT (1 :: (e163 ++ e163)) = e164 := by decide +kernel
theorem s165 : shaD begin8.list roundT (1 :: (e164 ++ e164)) = e165 := by decide +kernel
theorem s166 : shaD begin8.list roundT (1 :: (e165 ++ e165)) = e166 := by decide +kernel
theorem s167 : shaD begin8.list roundT (1 :: (e166 ++ e166)) = e167 := by decide +kernel
theorem s168 : shaD begin8.list roundT (1 :: (e167 ++ e167)) = e168 := by decide +kernel
theorem s169 : shaD begin8.list roundT (1 :: (e168 ++ e168)) = e169 := by decide +kernel
theorem s170 : shaD begin8.list roundT (1 :: (e169 ++ e169)) = e170 := by decide +kernel
theorem s171 : shaD begin8.list roundT (1 :: (e170 ++ e170)) = e171 := by decide +kernel
theorem s172 : shaD begin8.list roundT (1 :: (e171 ++ e171)) = e172 := by decide +kernel
theorem s173 : shaD begin8.list roundT (1 :: (e172 ++ e172)) = e173 := by decide +kernel
theorem s174 : shaD begin8.list roundT (1 :: (e173 ++ e173)) = e174 := by decide +kernel
theorem s175 : shaD begin8.list roundT (1 :: (e174 ++ e174)) = e175 := by decide +kernel
theorem s176 : shaD begin8.list roundT (1 :: (e175 ++ e175)) = e176 := by decide +kernel
theorem s177 : shaD begin8.list roundT (1 :: (e176 ++ e176)) = e177 := by decide +kernel
theorem s178 : shaD begin8.list roundT (1 :: (e177 ++ e177)) = e178 := by decide +kernel
theorem s179 : shaD begin8.list roundT (1 :: (e178 ++ e178)) = e179 := by decide +kernel
theorem s180 : shaD begin8.list roundT (1 :: (e179 ++ e179)) = e180 := by decide +kernel
theorem s181 : shaD begin8.list roundT (1 :: (e180 ++ e180)) = e181 := by decide +kernel
theorem s182 : shaD begin8.list roundT (1 :: (e181 ++ e181)) = e182 := by decide +kernel
theorem s183 : shaD begin8.list roundT (1 :: (e182 ++ e182)) = e183 := by decide +kernel
theorem s184 : shaD begin8.list roundT (1 :: (e183 ++ e183)) = e184 := by decide +kernel
theorem s185 : shaD begin8.list roundT (1 :: (e184 ++ e184)) = e185 := by decide +kernel
theorem s186 : shaD begin8.list roundT (1 :: (e185 ++ e185)) = e186 := by decide +kernel
theorem s187 : shaD begin8.list roundT (1 :: (e186 ++ e186)) = e187 := by decide +kernel
theorem s188 : shaD begin8.list roundT (1 :: (e187 ++ e187)) = e188 := by decide +kernel
theorem s189 : shaD begin8.list roundT (1 :: (e188 ++ e188)) = e189 := by decide +kernel
theorem s190 : shaD begin8.list roundT (1 :: (e189 ++ e189)) = e190 := by decide +kernel
theorem s191 : shaD begin8.list roundT (1 :: (e190 ++ e190)) = e191 := by decide +kernel
theorem s192 : shaD begin8.list roundT (1 :: (e191 ++ e191)) = e192 := by decide +kernel
theorem c2 (h : (emD begin8 roundT 32 128).1 = e128) : (emD begin8 roundT 32 191).1 = e191 ∧ (emD begin8 roundT 32 192).1 = e192 :=
  have h129 := em_next h s129
  have h130 := em_next h129 s130
  have h131 := em_next h130 s131
  have h132 := em_next h131 s132
  have h133 := em_next h132 s133
  have h134 := em_next h133 s134
  have h135 := em_next h134 s135
  have h136 := em_next h135 s136
  have h137 := em_next h136 s137
  have h138 := em_next h137 s138
  have h139 := em_next h138 s139
  have h140 := em_next h139 s140
  have h141 := em_next h140 s141
  have h142 := em_next h141 s142
  have h143 := em_next h142 s143
  have h144 := em_next h143 s144
  have h145 := em_next h144 s145
  have h146 := em_next h145 s146
  have h147 := em_next h146 s147
  have h148 := em_next h147 s148
  have h149 := em_next h148 s149
  have h150 := em_next h149 s150
  have h151 := em_next h150 s151
  have h152 := em_next h151 s152
  have h153 := em_next h152 s153
  have h154 := em_next h153 s154
  have h155 := em_next h154 s155
  have h156 := em_next h155 s156
  have h157 := em_next h156 s157
  have h158 := em_next h157 s158
  have h159 := em_next h158 s159
  have h160 := em_next h159 s160
  have h161 := em_next h160 s161
  have h162 := em_next h161 s162
  have h163 := em_next h162 s163
  have h164 := em_next h163 s164
  have h165 := em_next h164 s165
  have h166 := em_next h165 s166
  have h167 := em_next h166 s167
  have h168 := em_next h167 s168
  have h169 := em_next h168 s169
  have h170 := em_next h169 s170
  have h171 := em_next h170 s171
  have h172 := em_next h171 s172
  have h173 := em_next h172 s173
  have h174 := em_next h173 s174
  have h175 := em_next h174 s175
  have h176 := em_next h175 s176
  have h177 := em_next h176 s177
  have h178 := em_next h177 s178
  have h179 := em_next h178 s179
  have h180 := em_next h179 s180
  have h181 := em_next h180 s181
  have h182 := em_next h181 s182
  have h183 := em_next h182 s183
  have h184 := em_next h183 s184
  have h185 := em_next h184 s185
  have h186 := em_next h185 s186
  have h187 := em_next h186 s187
  have h188 := em_next h187 s188
  have h189 := em_next h188 s189
  have h190 := em_next h189 s190
  have h191 := em_next h190 s191
  have h192 := em_next h191 s192
  ⟨h191, h192⟩
end Go.Proofs.YtonpbmjgoenfdaaDoor
