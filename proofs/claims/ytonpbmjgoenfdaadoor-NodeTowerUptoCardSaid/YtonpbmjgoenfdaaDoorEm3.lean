/- The chain of the empty subtrees, levels 192 to 256: each step reckoned by the kernel. -/
import Derived.Test.YtonpbmjgoenfdaaDoorEm
namespace Go.Proofs.YtonpbmjgoenfdaaDoor
open Go
theorem s193 : shaD begin8.list roundT (1 :: (e192 ++ e192)) = e193 := by decide +kernel
theorem s194 : shaD begin8.list roundT (1 :: (e193 ++ e193)) = e194 := by decide +kernel
theorem s195 : shaD begin8.list roundT (1 :: (e194 ++ e194)) = e195 := by decide +kernel
theorem s196 : shaD begin8.list roundT (1 :: (e195 ++ e195)) = e196 := by decide +kernel
theorem s197 : shaD begin8.list roundT (1 :: (e196 ++ e196)) = e197 := by decide +kernel
theorem s198 : shaD begin8.list roundT (1 :: (e197 ++ e197)) = e198 := by decide +kernel
theorem s199 : shaD begin8.list roundT (1 :: (e198 ++ e198)) = e199 := by decide +kernel
theorem s200 : shaD begin8.list roundT (1 :: (e199 ++ e199)) = e200 := by decide +kernel
theorem s201 : shaD begin8.list roundT (1 :: (e200 ++ e200)) = e201 := by decide +kernel
theorem s202 : shaD begin8.list roundT (1 :: (e201 ++ e201)) = e202 := by decide +kernel
theorem s203 : shaD begin8.list roundT (1 :: (e202 ++ e202)) = e203 := by decide +kernel
theorem s204 : shaD begin8.list roundT (1 :: (e203 ++ e203)) = e204 := by decide +kernel
theorem s205 : shaD begin8.list roundT (1 :: (e204 ++ e204)) = e205 := by decide +kernel
theorem s206 : shaD begin8.list roundT (1 :: (e205 ++ e205)) = e206 := by decide +kernel
theorem s207 : shaD begin8.list roundT (1 :: (e206 ++ e206)) = e207 := by decide +kernel
theorem s208 : shaD begin8.list roundT (1 :: (e207 ++ e207)) = e208 := by decide +kernel
theorem s209 : shaD begin8.list roundT (1 :: (e208 ++ e208)) = e209 := by decide +kernel
theorem s210 : shaD begin8.list roundT (1 :: (e209 ++ e209)) = e210 := by decide +kernel
theorem s211 : shaD begin8.list roundT (1 :: (e210 ++ e210)) = e211 := by decide +kernel
theorem s212 : shaD begin8.list roundT (1 :: (e211 ++ e211)) = e212 := by decide +kernel
theorem s213 : shaD begin8.list roundT (1 :: (e212 ++ e212)) = e213 := by decide +kernel
theorem s214 : shaD begin8.list roundT (1 :: (e213 ++ e213)) = e214 := by decide +kernel
theorem s215 : shaD begin8.list roundT (1 :: (e214 ++ e214)) = e215 := by decide +kernel
theorem s216 : shaD begin8.list roundT (1 :: (e215 ++ e215)) = e216 := by decide +kernel
theorem s217 : shaD begin8.list roundT (1 :: (e216 ++ e216)) = e217 := by decide +kernel
theorem s218 : shaD begin8.list roundT (1 :: (e217 ++ e217)) = e218 := by decide +kernel
theorem s219 : shaD begin8.list roundT (1 :: (e218 ++ e218)) = e219 := by decide +kernel
theorem s220 : shaD begin8.list roundT (1 :: (e219 ++ e219)) = e220 := by decide +kernel
theorem s221 : shaD begin8.list roundT (1 :: (e220 ++ e220)) = e221 := by decide +kernel
theorem s222 : shaD begin8.list roundT (1 :: (e221 ++ e221)) = e222 := by decide +kernel
theorem s223 : shaD begin8.list roundT (1 :: (e222 ++ e222)) = e223 := by decide +kernel
theorem s224 : shaD begin8.list roundT (1 :: (e223 ++ e223)) = e224 := by decide +kernel
theorem s225 : shaD begin8.list roundT (1 :: (e224 ++ e224)) = e225 := by decide +kernel
theorem s226 : shaD begin8.list roundT (1 :: (e225 ++ e225)) = e226 := by decide +kernel
theorem s227 : shaD begin8.list roundT (1 :: (e226 ++ e226)) = e227 := by decide +kernel
theorem s228 : shaD begin8.list roundT (1 :: (e227 ++ e227)) = e228 := by decide +kernel
theorem s229 : shaD begin8.list roundT (1 :: (e228 ++ e228)) = e229 := by decide +kernel
theorem s230 : shaD begin8.list roundT (1 :: (e229 ++ e229)) = e230 := by decide +kernel
theorem s231 : shaD begin8.list roundT (1 :: (e230 ++ e230)) = e231 := by decide +kernel
theorem s232 : shaD begin8.list roundT (1 :: (e231 ++ e231)) = e232 := by decide +kernel
theorem s233 : shaD begin8.list roundT (1 :: (e232 ++ e232)) = e233 := by decide +kernel
theorem s234 : shaD begin8.list roundT (1 :: (e233 ++ e233)) = e234 := by decide +kernel
theorem s235 : shaD begin8.list roundT (1 :: (e234 ++ e234)) = e235 := by decide +kernel
theorem s236 : shaD begin8.list roundT (1 :: (e235 ++ e235)) = e236 := by decide +kernel
theorem s237 : shaD begin8.list roundT (1 :: (e236 ++ e236)) = e237 := by decide +kernel
theorem s238 : shaD begin8.list roundT (1 :: (e237 ++ e237)) = e238 := by decide +kernel
theorem s239 : shaD begin8.list roundT (1 :: (e238 ++ e238)) = e239 := by decide +kernel
theorem s240 : shaD begin8.list roundT (1 :: (e239 ++ e239)) = e240 := by decide +kernel
theorem s241 : shaD begin8.list roundT (1 :: (e240 ++ e240)) = e241 := by decide +kernel
theorem s242 : shaD begin8.list roundT (1 :: (e241 ++ e241)) = e242 := by decide +kernel
theorem s243 : shaD begin8.list roundT (1 :: (e242 ++ e242)) = e243 := by decide +kernel
theorem s244 : shaD begin8.list roundT (1 :: (e243 ++ e243)) = e244 := by decide +kernel
theorem s245 : shaD begin8.list roundT (1 :: (e244 ++ e244)) = e245 := by decide +kernel
theorem s246 : shaD begin8.list roundT (1 :: (e245 ++ e245)) = e246 := by decide +kernel
theorem s247 : shaD begin8.list roundT (1 :: (e246 ++ e246)) = e247 := by decide +kernel
theorem s248 : shaD begin8.list roundT (1 :: (e247 ++ e247)) = e248 := by decide +kernel
theorem s249 : shaD begin8.list roundT (1 :: (e248 ++ e248)) = e249 := by decide +kernel
theorem s250 : shaD begin8.list roundT (1 :: (e249 ++ e249)) = e250 := by decide +kernel
theorem s251 : shaD begin8.list roundT (1 :: (e250 ++ e250)) = e251 := by decide +kernel
theorem s252 : shaD begin8.list roundT (1 :: (e251 ++ e251)) = e252 := by decide +kernel
theorem s253 : shaD begin8.list roundT (1 :: (e252 ++ e252)) = e253 := by decide +kernel
theorem s254 : shaD begin8.list roundT (1 :: (e253 ++ e253)) = e254 := by decide +kernel
theorem s255 : shaD begin8.list roundT (1 :: (e254 ++ e254)) = e255 := by decide +kernel
theorem s256 : shaD begin8.list roundT (1 :: (e255 ++ e255)) = e256 := by decide +kernel
theorem c3 (h : (emD begin8 roundT 32 192).1 = e192) : (emD begin8 roundT 32 255).1 = e255 ∧ (emD begin8 roundT 32 256).1 = e256 :=
  have h193 := em_next h s193
  have h194 := em_next h193 s194
  have h195 := em_next h194 s195
  have h196 := em_next h195 s196
  have h197 := em_next h196 s197
  have h198 := em_next h197 s198
  have h199 := em_next h198 s199
  have h200 := em_next h199 s200
  have h201 := em_next h200 s201
  have h202 := em_next h201 s202
  have h203 := em_next h202 s203
  have h204 := em_next h203 s204
  have h205 := em_next h204 s205
  have h206 := em_next h205 s206
  have h207 := em_next h206 s207
  have h208 := em_next h207 s208
  have h209 := em_next h208 s209
  have h210 := em_next h209 s210
  have h211 := em_next h210 s211
  have h212 := em_next h211 s212
  have h213 := em_next h212 s213
  have h214 := em_next h213 s214
  have h215 := em_next h214 s215
  have h216 := em_next h215 s216
  have h217 := em_next h216 s217
  have h218 := em_next h217 s218
  have h219 := em_next h218 s219
  have h220 := em_next h219 s220
  have h221 := em_next h220 s221
  have h222 := em_next h221 s222
  have h223 := em_next h222 s223
  have h224 := em_next h223 s224
  have h225 := em_next h224 s225
  have h226 := em_next h225 s226
  have h227 := em_next h226 s227
  have h228 := em_next h227 s228
  have h229 := em_next h228 s229
  have h230 := em_next h229 s230
  have h231 := em_next h230 s231
  have h232 := em_next h231 s232
  have h233 := em_next h232 s233
  have h234 := em_next h233 s234
  have h235 := em_next h234 s235
  have h236 := em_next h235 s236
  have h237 := em_next h236 s237
  have h238 := em_next h237 s238
  have h239 := em_next h238 s239
  have h240 := em_next h239 s240
  have h241 := em_next h240 s241
  have h242 := em_next h241 s242
  have h243 := em_next h242 s243
  have h244 := em_next h243 s244
  have h245 := em_next h244 s245
  have h246 := em_next h245 s246
  have h247 := em_next h246 s247
  have h248 := em_next h247 s248
  have h249 := em_next h248 s249
  have h250 := em_next h249 s250
  have h251 := em_next h250 s251
  have h252 := em_next h251 s252
  have h253 := em_next h252 s253
  have h254 := em_next h253 s254
  have h255 := em_next h254 s255
  have h256 := em_next h255 s256
  ⟨h255, h256⟩
end Go.Proofs.YtonpbmjgoenfdaaDoor
