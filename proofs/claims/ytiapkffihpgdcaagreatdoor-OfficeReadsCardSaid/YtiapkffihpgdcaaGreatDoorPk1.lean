import Derived.Shelf.Lays2
import Derived.Shelf.Lays7
import Derived.Shelf.LaysM
import Derived.Shelf.SlLaysF0
import Derived.Shelf.SlGeneric
import Derived.Ground.NamesProg
import Derived.Ground.Names2Prog
import Derived.Ground.Names7Prog
import Derived.Ground.SlsfProg
import Derived.Test.YtiapkffihpgdcaaGreatDoorProg
/-
  The numbers under which this translation holds some functions of the library (written by the shelf's own tool out of OfLay.lean.txt).
-/
namespace Go.Proofs
open Go.Shelf
def Tryz.lsort_ren : Go.Shelf.Ren := ⟨fun | 189 => 274 | 125 => 305 | 257 => 304 | 128 => 320 | 129 => 301 | 294 => 312 | 295 => 313 | 296 => 314 | 297 => 315 | 298 => 316 | 299 => 317 | 216 => 263 | 300 => 318 | 301 => 319 | 328 => 332 | 329 => 333 | 330 => 334 | 331 => 335 | 332 => 336 | 215 => 298 | 343 => 341 | n => n, fun | 28 => 22 | 3 => 3 | 46 => 100 | 0 => 0 | 51 => 130 | 53 => 313 | 4 => 4 | 183 => 346 | 182 => 345 | 131 => 255 | 5 => 5 | 9 => 9 | 218 => 358 | 222 => 362 | 228 => 366 | 229 => 367 | n => n, fun | n => n⟩
theorem Tryz.lsort : Go.Proofs.Lays.n189 Tryz.prog Tryz.lsort_ren := {
  mixed := by kernel_rfl
  f125 := Tryz.func305.trans (congrArg some (by kernel_rfl))
  f128 := Tryz.func320.trans (congrArg some (by kernel_rfl))
  f129 := Tryz.func301.trans (congrArg some (by kernel_rfl))
  f189 := Tryz.func274.trans (congrArg some (by kernel_rfl))
  f215 := Tryz.func298.trans (congrArg some (by kernel_rfl))
  f216 := Tryz.func263.trans (congrArg some (by kernel_rfl))
  f257 := Tryz.func304.trans (congrArg some (by kernel_rfl))
  f294 := Tryz.func312.trans (congrArg some (by kernel_rfl))
  f295 := Tryz.func313.trans (congrArg some (by kernel_rfl))
  f296 := Tryz.func314.trans (congrArg some (by kernel_rfl))
  f297 := Tryz.func315.trans (congrArg some (by kernel_rfl))
  f298 := Tryz.func316.trans (congrArg some (by kernel_rfl))
  f299 := Tryz.func317.trans (congrArg some (by kernel_rfl))
  f300 := Tryz.func318.trans (congrArg some (by kernel_rfl))
  f301 := Tryz.func319.trans (congrArg some (by kernel_rfl))
  f328 := Tryz.func332.trans (congrArg some (by kernel_rfl))
  f329 := Tryz.func333.trans (congrArg some (by kernel_rfl))
  f330 := Tryz.func334.trans (congrArg some (by kernel_rfl))
  f331 := Tryz.func335.trans (congrArg some (by kernel_rfl))
  f332 := Tryz.func336.trans (congrArg some (by kernel_rfl))
  f343 := Tryz.func341.trans (congrArg some (by kernel_rfl))
  t0 := Tryz.underlying0
  a0 := Tryz.isAgg0
  z0 := Tryz.sizeOf0
  v0 := Tryz.zeroValue0
  t3 := Tryz.underlying3
  a3 := Tryz.isAgg3
  z3 := Tryz.sizeOf3
  v3 := Tryz.zeroValue3
  t4 := Tryz.underlying4
  a4 := Tryz.isAgg4
  z4 := Tryz.sizeOf4
  v4 := Tryz.zeroValue4
  t5 := Tryz.underlying5
  a5 := Tryz.isAgg5
  z5 := Tryz.sizeOf5
  v5 := Tryz.zeroValue5
  t9 := Tryz.underlying9
  a9 := Tryz.isAgg9
  z9 := Tryz.sizeOf9
  v9 := Tryz.zeroValue9
  t28 := Tryz.underlying22
  a28 := Tryz.isAgg22
  z28 := Tryz.sizeOf22
  v28 := Tryz.zeroValue22
  t46 := Tryz.underlying100
  a46 := Tryz.isAgg100
  z46 := Tryz.sizeOf100
  v46 := Tryz.zeroValue100
  t51 := Tryz.underlying130
  a51 := Tryz.isAgg130
  z51 := Tryz.sizeOf130
  v51 := Tryz.zeroValue130
  t53 := Tryz.underlying313
  a53 := Tryz.isAgg313
  z53 := Tryz.sizeOf313
  v53 := Tryz.zeroValue313
  t131 := Tryz.underlying255
  a131 := Tryz.isAgg255
  z131 := Tryz.sizeOf255
  v131 := Tryz.zeroValue255
  t182 := Tryz.underlying345
  a182 := Tryz.isAgg345
  z182 := Tryz.sizeOf345
  v182 := Tryz.zeroValue345
  t183 := Tryz.underlying346
  a183 := Tryz.isAgg346
  z183 := Tryz.sizeOf346
  v183 := Tryz.zeroValue346
  t218 := Tryz.underlying358
  a218 := Tryz.isAgg358
  z218 := Tryz.sizeOf358
  v218 := Tryz.zeroValue358
  t222 := Tryz.underlying362
  a222 := Tryz.isAgg362
  z222 := Tryz.sizeOf362
  v222 := Tryz.zeroValue362
  t228 := Tryz.underlying366
  a228 := Tryz.isAgg366
  z228 := Tryz.sizeOf366
  v228 := Tryz.zeroValue366
  t229 := Tryz.underlying367
  a229 := Tryz.isAgg367
  z229 := Tryz.sizeOf367
  v229 := Tryz.zeroValue367 }
def Tryz.lcomp_ren : Go.Shelf.Ren := ⟨fun | 20 => 275 | n => n, fun | 22 => 22 | 3 => 3 | 4 => 4 | 0 => 0 | n => n, fun | n => n⟩
theorem Tryz.lcomp : Go.Proofs.Lays2.n20 Tryz.prog Tryz.lcomp_ren := {
  mixed := by kernel_rfl
  f20 := Tryz.func275.trans (congrArg some (by kernel_rfl))
  t0 := Tryz.underlying0
  a0 := Tryz.isAgg0
  z0 := Tryz.sizeOf0
  v0 := Tryz.zeroValue0
  t3 := Tryz.underlying3
  a3 := Tryz.isAgg3
  z3 := Tryz.sizeOf3
  v3 := Tryz.zeroValue3
  t4 := Tryz.underlying4
  a4 := Tryz.isAgg4
  z4 := Tryz.sizeOf4
  v4 := Tryz.zeroValue4
  t22 := Tryz.underlying22
  a22 := Tryz.isAgg22
  z22 := Tryz.sizeOf22
  v22 := Tryz.zeroValue22
  i3 := by kernel_rfl }
def Tryz.leql_ren : Go.Shelf.Ren := ⟨fun | 111 => 216 | n => n, fun | 28 => 22 | 3 => 3 | 4 => 4 | 0 => 0 | n => n, fun | n => n⟩
theorem Tryz.leql : Go.Proofs.Lays.n111 Tryz.prog Tryz.leql_ren := {
  mixed := by kernel_rfl
  f111 := Tryz.func216.trans (congrArg some (by kernel_rfl))
  t0 := Tryz.underlying0
  a0 := Tryz.isAgg0
  z0 := Tryz.sizeOf0
  v0 := Tryz.zeroValue0
  t3 := Tryz.underlying3
  a3 := Tryz.isAgg3
  z3 := Tryz.sizeOf3
  v3 := Tryz.zeroValue3
  t4 := Tryz.underlying4
  a4 := Tryz.isAgg4
  z4 := Tryz.sizeOf4
  v4 := Tryz.zeroValue4
  t28 := Tryz.underlying22
  a28 := Tryz.isAgg22
  z28 := Tryz.sizeOf22
  v28 := Tryz.zeroValue22 }
def Tryz.lctz_ren : Go.Shelf.Ren := ⟨fun | 27 => 189 | 28 => 259 | 29 => 260 | n => n, fun | 25 => 100 | 3 => 3 | 27 => 130 | 22 => 313 | 4 => 4 | 53 => 334 | 0 => 0 | 5 => 5 | 54 => 335 | n => n, fun | 0 => 2 | 1 => 3 | n => n⟩
theorem Tryz.lctz : Go.Proofs.Lays7.n27 Tryz.prog Tryz.lctz_ren := {
  mixed := by kernel_rfl
  f27 := Tryz.func189.trans (congrArg some (by kernel_rfl))
  f28 := Tryz.func259.trans (congrArg some (by kernel_rfl))
  f29 := Tryz.func260.trans (congrArg some (by kernel_rfl))
  t0 := Tryz.underlying0
  a0 := Tryz.isAgg0
  z0 := Tryz.sizeOf0
  v0 := Tryz.zeroValue0
  i0 := by kernel_rfl
  t3 := Tryz.underlying3
  a3 := Tryz.isAgg3
  z3 := Tryz.sizeOf3
  v3 := Tryz.zeroValue3
  i3 := by kernel_rfl
  t4 := Tryz.underlying4
  a4 := Tryz.isAgg4
  z4 := Tryz.sizeOf4
  v4 := Tryz.zeroValue4
  i4 := by kernel_rfl
  t5 := Tryz.underlying5
  a5 := Tryz.isAgg5
  z5 := Tryz.sizeOf5
  v5 := Tryz.zeroValue5
  i5 := by kernel_rfl
  t22 := Tryz.underlying313
  a22 := Tryz.isAgg313
  z22 := Tryz.sizeOf313
  v22 := Tryz.zeroValue313
  i22 := by kernel_rfl
  t25 := Tryz.underlying100
  a25 := Tryz.isAgg100
  z25 := Tryz.sizeOf100
  v25 := Tryz.zeroValue100
  i25 := by kernel_rfl
  t27 := Tryz.underlying130
  a27 := Tryz.isAgg130
  z27 := Tryz.sizeOf130
  v27 := Tryz.zeroValue130
  i27 := by kernel_rfl
  t53 := Tryz.underlying334
  a53 := Tryz.isAgg334
  z53 := Tryz.sizeOf334
  v53 := Tryz.zeroValue334
  i53 := by kernel_rfl
  t54 := Tryz.underlying335
  a54 := Tryz.isAgg335
  z54 := Tryz.sizeOf335
  g0 := by kernel_rfl
  g1 := by kernel_rfl }
def Tryz.lcut_ren : Go.Shelf.Ren := ⟨fun | 145 => 94 | 220 => 177 | 219 => 247 | 217 => 293 | 225 => 294 | 224 => 295 | 267 => 296 | 266 => 310 | 314 => 311 | n => n, fun | 9 => 9 | 4 => 4 | 59 => 163 | 3 => 3 | 5 => 5 | 46 => 100 | 146 => 342 | 51 => 130 | n => n, fun | 1 => 1 | n => n⟩
theorem Tryz.lcut : Go.Proofs.Lays.n145 Tryz.prog Tryz.lcut_ren := {
  mixed := by kernel_rfl
  f145 := Tryz.func94.trans (congrArg some (by kernel_rfl))
  f217 := Tryz.func293.trans (congrArg some (by kernel_rfl))
  f219 := Tryz.func247.trans (congrArg some (by kernel_rfl))
  f220 := Tryz.func177.trans (congrArg some (by kernel_rfl))
  f224 := Tryz.func295.trans (congrArg some (by kernel_rfl))
  f225 := Tryz.func294.trans (congrArg some (by kernel_rfl))
  f266 := Tryz.func310.trans (congrArg some (by kernel_rfl))
  f267 := Tryz.func296.trans (congrArg some (by kernel_rfl))
  f314 := Tryz.func311.trans (congrArg some (by kernel_rfl))
  t3 := Tryz.underlying3
  a3 := Tryz.isAgg3
  z3 := Tryz.sizeOf3
  v3 := Tryz.zeroValue3
  t4 := Tryz.underlying4
  a4 := Tryz.isAgg4
  z4 := Tryz.sizeOf4
  v4 := Tryz.zeroValue4
  t5 := Tryz.underlying5
  a5 := Tryz.isAgg5
  z5 := Tryz.sizeOf5
  v5 := Tryz.zeroValue5
  t9 := Tryz.underlying9
  a9 := Tryz.isAgg9
  z9 := Tryz.sizeOf9
  v9 := Tryz.zeroValue9
  t46 := Tryz.underlying100
  a46 := Tryz.isAgg100
  z46 := Tryz.sizeOf100
  v46 := Tryz.zeroValue100
  t51 := Tryz.underlying130
  a51 := Tryz.isAgg130
  z51 := Tryz.sizeOf130
  v51 := Tryz.zeroValue130
  t59 := Tryz.underlying163
  a59 := Tryz.isAgg163
  z59 := Tryz.sizeOf163
  v59 := Tryz.zeroValue163
  t146 := Tryz.underlying342
  a146 := Tryz.isAgg342
  z146 := Tryz.sizeOf342
  v146 := Tryz.zeroValue342
  g1 := by kernel_rfl }
def Tryz.lstr_ren : Go.Shelf.Ren := ⟨fun | 169 => 158 | n => n, fun | 70 => 219 | 9 => 9 | 0 => 0 | 72 => 222 | 37 => 220 | 127 => 270 | 3 => 3 | 5 => 5 | n => n, fun | n => n⟩
theorem Tryz.lstr : Go.Proofs.Lays.n169 Tryz.prog Tryz.lstr_ren := {
  mixed := by kernel_rfl
  f169 := Tryz.func158.trans (congrArg some (by kernel_rfl))
  t0 := Tryz.underlying0
  a0 := Tryz.isAgg0
  z0 := Tryz.sizeOf0
  v0 := Tryz.zeroValue0
  t3 := Tryz.underlying3
  a3 := Tryz.isAgg3
  z3 := Tryz.sizeOf3
  v3 := Tryz.zeroValue3
  t9 := Tryz.underlying9
  a9 := Tryz.isAgg9
  z9 := Tryz.sizeOf9
  v9 := Tryz.zeroValue9
  t37 := Tryz.underlying220
  a37 := Tryz.isAgg220
  z37 := Tryz.sizeOf220
  v37 := Tryz.zeroValue220
  t70 := Tryz.underlying219
  a70 := Tryz.isAgg219
  z70 := Tryz.sizeOf219
  v70 := Tryz.zeroValue219
  t72 := Tryz.underlying222
  a72 := Tryz.isAgg222
  z72 := Tryz.sizeOf222
  v72 := Tryz.zeroValue222
  t127 := Tryz.underlying270
  a127 := Tryz.isAgg270
  z127 := Tryz.sizeOf270
  v127 := Tryz.zeroValue270 }
def Tryz.lsrc_ren : Go.Shelf.Ren := ⟨fun | 6 => 287 | 15 => 305 | 14 => 309 | 28 => 320 | 29 => 301 | 20 => 324 | 21 => 325 | 22 => 326 | 23 => 327 | 24 => 328 | 25 => 329 | 26 => 330 | 27 => 331 | 46 => 338 | 47 => 333 | 48 => 334 | 49 => 339 | 50 => 340 | 57 => 342 | n => n, fun | 22 => 46 | 24 => 56 | 25 => 330 | 3 => 3 | 39 => 100 | 0 => 0 | 53 => 130 | 55 => 313 | 4 => 4 | 46 => 346 | 45 => 345 | 50 => 255 | 5 => 5 | 9 => 9 | 66 => 358 | 70 => 362 | 76 => 366 | 77 => 367 | n => n, fun | n => n⟩
theorem Tryz.lsrc : Go.Proofs.SlLaysF0.n6 Tryz.prog Tryz.lsrc_ren := {
  mixed := by kernel_rfl
  f6 := ⟨Tryz.f287.name, by decide, Tryz.func287.trans (congrArg some (by kernel_rfl))⟩
  f14 := ⟨Tryz.f309.name, by decide, Tryz.func309.trans (congrArg some (by kernel_rfl))⟩
  f15 := Tryz.func305.trans (congrArg some (by kernel_rfl))
  f20 := ⟨Tryz.f324.name, by decide, Tryz.func324.trans (congrArg some (by kernel_rfl))⟩
  f21 := ⟨Tryz.f325.name, by decide, Tryz.func325.trans (congrArg some (by kernel_rfl))⟩
  f22 := ⟨Tryz.f326.name, by decide, Tryz.func326.trans (congrArg some (by kernel_rfl))⟩
  f23 := ⟨Tryz.f327.name, by decide, Tryz.func327.trans (congrArg some (by kernel_rfl))⟩
  f24 := ⟨Tryz.f328.name, by decide, Tryz.func328.trans (congrArg some (by kernel_rfl))⟩
  f25 := ⟨Tryz.f329.name, by decide, Tryz.func329.trans (congrArg some (by kernel_rfl))⟩
  f26 := ⟨Tryz.f330.name, by decide, Tryz.func330.trans (congrArg some (by kernel_rfl))⟩
  f27 := ⟨Tryz.f331.name, by decide, Tryz.func331.trans (congrArg some (by kernel_rfl))⟩
  f28 := Tryz.func320.trans (congrArg some (by kernel_rfl))
  f29 := Tryz.func301.trans (congrArg some (by kernel_rfl))
  f46 := ⟨Tryz.f338.name, by decide, Tryz.func338.trans (congrArg some (by kernel_rfl))⟩
  f47 := Tryz.func333.trans (congrArg some (by kernel_rfl))
  f48 := Tryz.func334.trans (congrArg some (by kernel_rfl))
  f49 := ⟨Tryz.f339.name, by decide, Tryz.func339.trans (congrArg some (by kernel_rfl))⟩
  f50 := ⟨Tryz.f340.name, by decide, Tryz.func340.trans (congrArg some (by kernel_rfl))⟩
  f57 := ⟨Tryz.f342.name, by decide, Tryz.func342.trans (congrArg some (by kernel_rfl))⟩
  t0 := Tryz.underlying0
  a0 := Tryz.isAgg0
  z0 := Tryz.sizeOf0
  v0 := Tryz.zeroValue0
  t3 := Tryz.underlying3
  a3 := Tryz.isAgg3
  z3 := Tryz.sizeOf3
  v3 := Tryz.zeroValue3
  t4 := Tryz.underlying4
  a4 := Tryz.isAgg4
  z4 := Tryz.sizeOf4
  v4 := Tryz.zeroValue4
  t5 := Tryz.underlying5
  a5 := Tryz.isAgg5
  z5 := Tryz.sizeOf5
  v5 := Tryz.zeroValue5
  t9 := Tryz.underlying9
  a9 := Tryz.isAgg9
  z9 := Tryz.sizeOf9
  v9 := Tryz.zeroValue9
  t22 := Tryz.underlying46
  a22 := Tryz.isAgg46
  z22 := Tryz.sizeOf46
  v22 := Tryz.zeroValue46
  t25 := Tryz.underlying330
  a25 := Tryz.isAgg330
  z25 := Tryz.sizeOf330
  v25 := Tryz.zeroValue330
  t39 := Tryz.underlying100
  a39 := Tryz.isAgg100
  z39 := Tryz.sizeOf100
  v39 := Tryz.zeroValue100
  t45 := Tryz.underlying345
  a45 := Tryz.isAgg345
  z45 := Tryz.sizeOf345
  v45 := Tryz.zeroValue345
  t46 := Tryz.underlying346
  a46 := Tryz.isAgg346
  z46 := Tryz.sizeOf346
  v46 := Tryz.zeroValue346
  t50 := Tryz.underlying255
  a50 := Tryz.isAgg255
  z50 := Tryz.sizeOf255
  v50 := Tryz.zeroValue255
  t53 := Tryz.underlying130
  a53 := Tryz.isAgg130
  z53 := Tryz.sizeOf130
  v53 := Tryz.zeroValue130
  t55 := Tryz.underlying313
  a55 := Tryz.isAgg313
  z55 := Tryz.sizeOf313
  v55 := Tryz.zeroValue313
  t66 := Tryz.underlying358
  a66 := Tryz.isAgg358
  z66 := Tryz.sizeOf358
  v66 := Tryz.zeroValue358
  t70 := Tryz.underlying362
  a70 := Tryz.isAgg362
  z70 := Tryz.sizeOf362
  v70 := Tryz.zeroValue362
  t76 := Tryz.underlying366
  a76 := Tryz.isAgg366
  z76 := Tryz.sizeOf366
  v76 := Tryz.zeroValue366
  t77 := Tryz.underlying367
  a77 := Tryz.isAgg367
  z77 := Tryz.sizeOf367
  v77 := Tryz.zeroValue367 }
def Tryz.litoa_ren : Go.Shelf.Ren := ⟨fun | 171 => 59 | 243 => 149 | 246 => 217 | 283 => 270 | 284 => 271 | 285 => 272 | 286 => 273 | 129 => 301 | 317 => 300 | 318 => 302 | 319 => 303 | 320 => 189 | 337 => 259 | 338 => 260 | n => n, fun | 3 => 3 | 9 => 9 | 2 => 2 | 4 => 4 | 171 => 315 | 0 => 0 | 53 => 313 | 37 => 220 | 5 => 5 | 173 => 317 | 212 => 337 | 51 => 130 | 20 => 20 | 213 => 338 | 46 => 100 | 232 => 334 | 233 => 335 | n => n, fun | 17 => 4 | 18 => 2 | 19 => 3 | n => n⟩
theorem Tryz.litoa : Go.Proofs.LaysM.n171 Tryz.prog Tryz.litoa_ren := {
  mixed := by kernel_rfl
  f129 := Tryz.func301.trans (congrArg some (by kernel_rfl))
  f171 := Tryz.func59.trans (congrArg some (by kernel_rfl))
  f243 := Tryz.func149.trans (congrArg some (by kernel_rfl))
  f246 := Tryz.func217.trans (congrArg some (by kernel_rfl))
  f283 := Tryz.func270.trans (congrArg some (by kernel_rfl))
  f284 := Tryz.func271.trans (congrArg some (by kernel_rfl))
  f285 := Tryz.func272.trans (congrArg some (by kernel_rfl))
  f286 := Tryz.func273.trans (congrArg some (by kernel_rfl))
  f317 := Tryz.func300.trans (congrArg some (by kernel_rfl))
  f318 := Tryz.func302.trans (congrArg some (by kernel_rfl))
  f319 := Tryz.func303.trans (congrArg some (by kernel_rfl))
  f320 := Tryz.func189.trans (congrArg some (by kernel_rfl))
  f337 := Tryz.func259.trans (congrArg some (by kernel_rfl))
  f338 := Tryz.func260.trans (congrArg some (by kernel_rfl))
  t0 := Tryz.underlying0
  a0 := Tryz.isAgg0
  z0 := Tryz.sizeOf0
  v0 := Tryz.zeroValue0
  t2 := Tryz.underlying2
  a2 := Tryz.isAgg2
  z2 := Tryz.sizeOf2
  v2 := Tryz.zeroValue2
  t3 := Tryz.underlying3
  a3 := Tryz.isAgg3
  z3 := Tryz.sizeOf3
  v3 := Tryz.zeroValue3
  t4 := Tryz.underlying4
  a4 := Tryz.isAgg4
  z4 := Tryz.sizeOf4
  v4 := Tryz.zeroValue4
  t5 := Tryz.underlying5
  a5 := Tryz.isAgg5
  z5 := Tryz.sizeOf5
  v5 := Tryz.zeroValue5
  t9 := Tryz.underlying9
  a9 := Tryz.isAgg9
  z9 := Tryz.sizeOf9
  v9 := Tryz.zeroValue9
  t20 := Tryz.underlying20
  a20 := Tryz.isAgg20
  z20 := Tryz.sizeOf20
  v20 := Tryz.zeroValue20
  t37 := Tryz.underlying220
  a37 := Tryz.isAgg220
  z37 := Tryz.sizeOf220
  v37 := Tryz.zeroValue220
  t46 := Tryz.underlying100
  a46 := Tryz.isAgg100
  z46 := Tryz.sizeOf100
  v46 := Tryz.zeroValue100
  t51 := Tryz.underlying130
  a51 := Tryz.isAgg130
  z51 := Tryz.sizeOf130
  v51 := Tryz.zeroValue130
  t53 := Tryz.underlying313
  a53 := Tryz.isAgg313
  z53 := Tryz.sizeOf313
  v53 := Tryz.zeroValue313
  t171 := Tryz.underlying315
  a171 := Tryz.isAgg315
  z171 := Tryz.sizeOf315
  v171 := Tryz.zeroValue315
  t173 := Tryz.underlying317
  a173 := Tryz.isAgg317
  z173 := Tryz.sizeOf317
  v173 := Tryz.zeroValue317
  t212 := Tryz.underlying337
  a212 := Tryz.isAgg337
  z212 := Tryz.sizeOf337
  v212 := Tryz.zeroValue337
  t213 := Tryz.underlying338
  a213 := Tryz.isAgg338
  z213 := Tryz.sizeOf338
  t232 := Tryz.underlying334
  a232 := Tryz.isAgg334
  z232 := Tryz.sizeOf334
  v232 := Tryz.zeroValue334
  t233 := Tryz.underlying335
  a233 := Tryz.isAgg335
  z233 := Tryz.sizeOf335
  v233 := Tryz.zeroValue335
  g17 := by kernel_rfl
  g18 := by kernel_rfl
  g19 := by kernel_rfl
  i0 := by kernel_rfl
  i2 := by kernel_rfl
  i3 := by kernel_rfl
  i4 := by kernel_rfl
  i5 := by kernel_rfl
  i9 := by kernel_rfl
  i20 := by kernel_rfl
  i37 := by kernel_rfl
  i46 := by kernel_rfl
  i51 := by kernel_rfl
  i53 := by kernel_rfl
  i171 := by kernel_rfl
  i173 := by kernel_rfl
  i212 := by kernel_rfl
  i232 := by kernel_rfl
  i233 := by kernel_rfl
  m17 := by kernel_rfl
  m18 := by kernel_rfl
  m19 := by kernel_rfl }
def Tryz.lsplit_ren : Go.Shelf.Ren := ⟨fun | 146 => 231 | 221 => 284 | 268 => 306 | 138 => 307 | 143 => 308 | 195 => 321 | 197 => 322 | 218 => 323 | 219 => 247 | 260 => 337 | 217 => 293 | 225 => 294 | 224 => 295 | 267 => 296 | 266 => 310 | 314 => 311 | n => n, fun | 9 => 9 | 31 => 33 | 3 => 3 | 4 => 4 | 0 => 0 | 105 => 351 | 21 => 21 | 5 => 5 | 46 => 100 | 119 => 369 | 139 => 372 | 138 => 371 | 146 => 342 | 51 => 130 | n => n, fun | 1 => 1 | 3 => 5 | 4 => 6 | n => n⟩
theorem Tryz.lsplit : Go.Proofs.Lays.n146 Tryz.prog Tryz.lsplit_ren := {
  mixed := by kernel_rfl
  f138 := Tryz.func307.trans (congrArg some (by kernel_rfl))
  f143 := Tryz.func308.trans (congrArg some (by kernel_rfl))
  f146 := Tryz.func231.trans (congrArg some (by kernel_rfl))
  f195 := Tryz.func321.trans (congrArg some (by kernel_rfl))
  f197 := Tryz.func322.trans (congrArg some (by kernel_rfl))
  f217 := Tryz.func293.trans (congrArg some (by kernel_rfl))
  f218 := Tryz.func323.trans (congrArg some (by kernel_rfl))
  f219 := Tryz.func247.trans (congrArg some (by kernel_rfl))
  f221 := Tryz.func284.trans (congrArg some (by kernel_rfl))
  f224 := Tryz.func295.trans (congrArg some (by kernel_rfl))
  f225 := Tryz.func294.trans (congrArg some (by kernel_rfl))
  f260 := Tryz.func337.trans (congrArg some (by kernel_rfl))
  f266 := Tryz.func310.trans (congrArg some (by kernel_rfl))
  f267 := Tryz.func296.trans (congrArg some (by kernel_rfl))
  f268 := Tryz.func306.trans (congrArg some (by kernel_rfl))
  f314 := Tryz.func311.trans (congrArg some (by kernel_rfl))
  t0 := Tryz.underlying0
  a0 := Tryz.isAgg0
  z0 := Tryz.sizeOf0
  v0 := Tryz.zeroValue0
  t3 := Tryz.underlying3
  a3 := Tryz.isAgg3
  z3 := Tryz.sizeOf3
  v3 := Tryz.zeroValue3
  t4 := Tryz.underlying4
  a4 := Tryz.isAgg4
  z4 := Tryz.sizeOf4
  v4 := Tryz.zeroValue4
  t5 := Tryz.underlying5
  a5 := Tryz.isAgg5
  z5 := Tryz.sizeOf5
  v5 := Tryz.zeroValue5
  t9 := Tryz.underlying9
  a9 := Tryz.isAgg9
  z9 := Tryz.sizeOf9
  v9 := Tryz.zeroValue9
  t21 := Tryz.underlying21
  a21 := Tryz.isAgg21
  z21 := Tryz.sizeOf21
  v21 := Tryz.zeroValue21
  t31 := Tryz.underlying33
  a31 := Tryz.isAgg33
  z31 := Tryz.sizeOf33
  v31 := Tryz.zeroValue33
  t46 := Tryz.underlying100
  a46 := Tryz.isAgg100
  z46 := Tryz.sizeOf100
  v46 := Tryz.zeroValue100
  t51 := Tryz.underlying130
  a51 := Tryz.isAgg130
  z51 := Tryz.sizeOf130
  v51 := Tryz.zeroValue130
  t105 := Tryz.underlying351
  a105 := Tryz.isAgg351
  z105 := Tryz.sizeOf351
  v105 := Tryz.zeroValue351
  t119 := Tryz.underlying369
  a119 := Tryz.isAgg369
  z119 := Tryz.sizeOf369
  t138 := Tryz.underlying371
  a138 := Tryz.isAgg371
  z138 := Tryz.sizeOf371
  v138 := Tryz.zeroValue371
  t139 := Tryz.underlying372
  a139 := Tryz.isAgg372
  z139 := Tryz.sizeOf372
  v139 := Tryz.zeroValue372
  t146 := Tryz.underlying342
  a146 := Tryz.isAgg342
  z146 := Tryz.sizeOf342
  v146 := Tryz.zeroValue342
  g1 := by kernel_rfl
  g3 := by kernel_rfl
  g4 := by kernel_rfl }
end Go.Proofs
/-
  The plain mathematics of terms and cycles: no program in sight.
-/
namespace Go.Proofs.YtiapkffihpgdcaaGreatDoor
set_option linter.unusedVariables false
set_option linter.unusedSimpArgs false

def gi (l : List Int) (k : Nat) : Int := l.getD k 0
theorem gi_getElem (l : List Int) (k : Nat) (h : k < l.length) : l[k] = gi l k := by simp [gi, h]
theorem gi_mem (l : List Int) (k : Nat) (h : k < l.length) : gi l k ∈ l := by rw [← gi_getElem l k h]; exact List.getElem_mem h
def inB (n lo hi : Int) : Bool := decide (lo ≤ n ∧ n ≤ hi)
theorem inB_true {n lo hi : Int} : inB n lo hi = true ↔ lo ≤ n ∧ n ≤ hi := by simp [inB]
theorem inB_false {n lo hi : Int} : inB n lo hi = false ↔ ¬ (lo ≤ n ∧ n ≤ hi) := by simp only [inB, decide_eq_false_iff_not]

/-! ### sets -/
def setOk (l : List Int) (n : Int) (k : Nat) : Bool := decide (0 ≤ gi l k ∧ gi l k < n ∧ (k = 0 ∨ gi l (k - 1) < gi l k))
def setTo (l : List Int) (n : Int) : Nat → Bool
  | 0 => true
  | k + 1 => setTo l n k && setOk l n k
def isSet (l : List Int) (n : Int) : Bool := setTo l n l.length
theorem setOk_iff (l : List Int) (n : Int) (k : Nat) : setOk l n k = true ↔ 0 ≤ gi l k ∧ gi l k < n ∧ (k = 0 ∨ gi l (k - 1) < gi l k) := by simp only [setOk, decide_eq_true_eq]
theorem setOk_not (l : List Int) (n : Int) (k : Nat) : setOk l n k = false ↔ ¬ (0 ≤ gi l k ∧ gi l k < n ∧ (k = 0 ∨ gi l (k - 1) < gi l k)) := by simp only [setOk, decide_eq_false_iff_not]
theorem setTo_iff (l : List Int) (n : Int) (k : Nat) : setTo l n k = true ↔ ∀ i, i < k → setOk l n i = true := by
  induction k with
  | zero => simp [setTo]
  | succ k ih =>
    simp only [setTo, Bool.and_eq_true, ih]
    constructor
    · rintro ⟨h1, h2⟩ i hi
      by_cases e : i = k
      · subst e; exact h2
      · exact h1 i (by omega)
    · intro h; exact ⟨fun i hi => h i (by omega), h k (by omega)⟩
theorem isSet_bad {l : List Int} {n : Int} {k : Nat} (hk : k < l.length) (h : setOk l n k = false) : isSet l n = false := by
  cases hs : isSet l n with
  | false => rfl
  | true => rw [(setTo_iff _ _ _).1 hs k hk] at h; cases h
theorem isSet_at {l : List Int} {n : Int} (h : isSet l n = true) {k : Nat} (hk : k < l.length) : 0 ≤ gi l k ∧ gi l k < n := by
  have := (setOk_iff _ _ _).1 ((setTo_iff _ _ _).1 h k hk); exact ⟨this.1, this.2.1⟩
theorem isSet_step {l : List Int} {n : Int} (h : isSet l n = true) {k : Nat} (hk : k + 1 < l.length) : gi l k < gi l (k + 1) := by
  have := (setOk_iff _ _ _).1 ((setTo_iff _ _ _).1 h (k + 1) hk)
  rcases this.2.2 with h0 | h0
  · omega
  · simpa using h0
theorem isSet_lt {l : List Int} {n : Int} (h : isSet l n = true) (i : Nat) : ∀ j, i < j → j < l.length → gi l i < gi l j
  | 0, h1, _ => by omega
  | j + 1, h1, h2 => by
    have hs := isSet_step h h2
    by_cases e : i = j
    · subst e; exact hs
    · have := isSet_lt h i j (by omega) (by omega); omega
theorem isSet_ge {l : List Int} {n : Int} (h : isSet l n = true) : ∀ k, k < l.length → (k : Int) ≤ gi l k
  | 0, hk => by have := isSet_at h hk; simpa using this.1
  | k + 1, hk => by have := isSet_ge h k (by omega); have := isSet_step h hk; omega
theorem isSet_len {l : List Int} {n : Int} (h : isSet l n = true) (hn : 0 ≤ n) : (l.length : Int) ≤ n := by
  by_cases e : l.length = 0
  · omega
  · have := isSet_ge h (l.length - 1) (by omega); have := isSet_at h (k := l.length - 1) (by omega); omega

def hasTo (l : List Int) (x : Int) : Nat → Bool
  | 0 => false
  | k + 1 => hasTo l x k || (gi l k == x)
def hasB (l : List Int) (x : Int) : Bool := hasTo l x l.length
theorem hasTo_iff (l : List Int) (x : Int) (k : Nat) : hasTo l x k = true ↔ ∃ i, i < k ∧ gi l i = x := by
  induction k with
  | zero => simp [hasTo]
  | succ k ih =>
    simp only [hasTo, Bool.or_eq_true, ih, beq_iff_eq]
    constructor
    · rintro (⟨i, hi, h⟩ | h)
      · exact ⟨i, by omega, h⟩
      · exact ⟨k, by omega, h⟩
    · rintro ⟨i, hi, h⟩
      by_cases e : i = k
      · subst e; exact .inr h
      · exact .inl ⟨i, by omega, h⟩
theorem hasB_iff (l : List Int) (x : Int) : hasB l x = true ↔ ∃ i, i < l.length ∧ gi l i = x := hasTo_iff l x _
theorem hasB_mem (l : List Int) (x : Int) : hasB l x = true ↔ x ∈ l := by
  rw [hasB_iff]
  constructor
  · rintro ⟨i, hi, rfl⟩; exact gi_mem l i hi
  · intro h
    obtain ⟨i, hi, he⟩ := List.mem_iff_getElem.1 h
    exact ⟨i, hi, by rw [← gi_getElem l i hi]; exact he⟩
theorem hasB_at {l : List Int} {k : Nat} (hk : k < l.length) : hasB l (gi l k) = true := (hasB_iff _ _).2 ⟨k, hk, rfl⟩

/-- How many numbers of an ascending list are below x. -/
def CutI (l : List Int) (x : Int) (n : Nat) : Prop := n ≤ l.length ∧ (∀ i, i < n → gi l i < x) ∧ (∀ i, n ≤ i → i < l.length → x ≤ gi l i)
theorem CutI.has {l : List Int} {x : Int} {n : Nat} {b : Int} (h : CutI l x n) (hs : isSet l b = true) : hasB l x = true ↔ n < l.length ∧ gi l n = x := by
  rw [hasB_iff]
  constructor
  · rintro ⟨i, hi, e⟩
    have h1 : n ≤ i := by
      rcases Nat.lt_or_ge i n with hlt | hge
      · have := h.2.1 i hlt; omega
      · exact hge
    have h2 := h.2.2 n (Nat.le_refl _) (by omega)
    rcases Nat.lt_or_eq_of_le h1 with hlt | heq
    · have := isSet_lt hs n i hlt hi; omega
    · subst heq; exact ⟨hi, e⟩
  · rintro ⟨h1, h2⟩; exact ⟨n, h1, h2⟩

/-! ### terms and cycles -/
structure Tm where
  len : Int
  rest : List Int
  clo : List Int
structure Cy where
  n : Int
  f : Int
  k : Int
def tE (t : Tm) : Int :=
  if inB t.len 1 1000 && (isSet t.rest 7 && !(decide (t.rest.length = 7))) then (if 60 < t.clo.length then 4 else if isSet t.clo t.len then 0 else 1) else 1
def cE (c : Cy) : Int := if inB c.n 1 40 && (inB c.f 0 (c.n - 1) && (c.k == 0 || c.k == 1)) then 0 else 1
def bE (t : Tm) (c : Cy) : Int := if tE t ≠ 0 then tE t else cE c
structure TmOk (t : Tm) : Prop where
  len1 : 1 ≤ t.len
  len2 : t.len ≤ 1000
  rest : isSet t.rest 7 = true
  rest7 : t.rest.length ≠ 7
  clo60 : t.clo.length ≤ 60
  clo : isSet t.clo t.len = true
structure CyOk (c : Cy) : Prop where
  n1 : 1 ≤ c.n
  n2 : c.n ≤ 40
  f0 : 0 ≤ c.f
  f1 : c.f < c.n
  k : c.k = 0 ∨ c.k = 1
theorem TmOk.of {t : Tm} (h : tE t = 0) : TmOk t := by
  unfold tE at h
  cases h1 : inB t.len 1 1000 with
  | false => rw [h1] at h; cases h
  | true =>
    cases h2 : isSet t.rest 7 with
    | false => rw [h1, h2] at h; cases h
    | true =>
      by_cases h3 : t.rest.length = 7
      · rw [h1, h2, decide_eq_true h3] at h; cases h
      · rw [h1, h2, decide_eq_false h3] at h
        simp only [Bool.not_false, Bool.and_self, if_true] at h
        by_cases h4 : 60 < t.clo.length
        · rw [if_pos h4] at h; cases h
        · rw [if_neg h4] at h
          cases h5 : isSet t.clo t.len with
          | false => rw [h5] at h; cases h
          | true => have := inB_true.1 h1; exact ⟨this.1, this.2, h2, h3, by omega, h5⟩
theorem TmOk.to {t : Tm} (h : TmOk t) : tE t = 0 := by
  unfold tE
  rw [inB_true.2 ⟨h.len1, h.len2⟩, h.rest, decide_eq_false h.rest7, if_pos (show (true && (true && !false)) = true from rfl), if_neg (by have := h.clo60; omega), if_pos h.clo]
theorem CyOk.of {c : Cy} (h : cE c = 0) : CyOk c := by
  unfold cE at h
  cases h1 : inB c.n 1 40 with
  | false => rw [h1] at h; cases h
  | true =>
    cases h2 : inB c.f 0 (c.n - 1) with
    | false => rw [h1, h2] at h; cases h
    | true =>
      cases h3 : (c.k == 0 || c.k == 1) with
      | false => rw [h1, h2, h3] at h; cases h
      | true =>
        have a := inB_true.1 h1
        have b := inB_true.1 h2
        exact ⟨a.1, a.2, b.1, by omega, by simpa using h3⟩
theorem CyOk.to {c : Cy} (h : CyOk c) : cE c = 0 := by
  unfold cE
  have hk : (c.k == 0 || c.k == 1) = true := by have := h.k; simpa using this
  rw [inB_true.2 ⟨h.n1, h.n2⟩, inB_true.2 ⟨h.f0, by have := h.f1; omega⟩, hk]; rfl
theorem bE_ok {t : Tm} {c : Cy} (h : bE t c = 0) : TmOk t ∧ CyOk c := by
  unfold bE at h
  by_cases h1 : tE t = 0
  · rw [if_neg (by simp [h1])] at h; exact ⟨TmOk.of h1, CyOk.of h⟩
  · rw [if_pos h1] at h; exact absurd h h1
theorem bE_of {t : Tm} {c : Cy} (h1 : TmOk t) (h2 : CyOk c) : bE t c = 0 := by
  unfold bE; rw [if_neg (by simp [h1.to])]; exact h2.to

/-! ### school days -/
def wkB (t : Tm) (d : Int) : Bool := !hasB t.rest (d % 7)
def opB (t : Tm) (d : Int) : Bool := wkB t d && !hasB t.clo d
def cnt (p : Nat → Bool) : Nat → Nat
  | 0 => 0
  | k + 1 => cnt p k + if p k then 1 else 0
theorem cnt_yes (p : Nat → Bool) (k : Nat) (h : p k = true) : cnt p (k + 1) = cnt p k + 1 := by simp [cnt, h]
theorem cnt_no (p : Nat → Bool) (k : Nat) (h : p k = false) : cnt p (k + 1) = cnt p k := by simp [cnt, h]
theorem cnt_le (p : Nat → Bool) (k : Nat) : cnt p k ≤ k := by
  induction k with
  | zero => simp [cnt]
  | succ k ih => simp only [cnt]; split <;> omega
theorem cnt_congr (p q : Nat → Bool) (k : Nat) (h : ∀ i, i < k → p i = q i) : cnt p k = cnt q k := by
  induction k with
  | zero => rfl
  | succ k ih => simp only [cnt]; rw [ih fun i hi => h i (by omega), h k (by omega)]
theorem cnt_mono (p : Nat → Bool) (a : Nat) : ∀ b, a ≤ b → cnt p a ≤ cnt p b
  | 0, h => by have : a = 0 := by omega
               subst this; exact Nat.le_refl _
  | b + 1, h => by
    by_cases e : a = b + 1
    · subst e; exact Nat.le_refl _
    · have := cnt_mono p a b (by omega); simp only [cnt]; omega
/-- The menu's step at a day. -/
def stB (t : Tm) (c : Cy) (d : Nat) : Bool := opB t d || (c.k == 1 && wkB t d)
theorem stB_ref (t : Tm) (c : Cy) (hc : CyOk c) (d : Nat) : stB t c d = ((c.k == 0 && opB t d) || (c.k == 1 && wkB t d)) := by
  unfold stB opB
  rcases hc.k with h | h <;> rw [h] <;> cases wkB t d <;> cases hasB t.clo d <;> rfl
def mnAt (t : Tm) (c : Cy) (d : Nat) : Int := if opB t d then (c.f + cnt (stB t c) d) % c.n else -1
theorem mnAt_open {t : Tm} {c : Cy} {d : Nat} (h : opB t d = true) : mnAt t c d = (c.f + cnt (stB t c) d) % c.n := by simp [mnAt, h]
theorem mnAt_shut {t : Tm} {c : Cy} {d : Nat} (h : opB t d = false) : mnAt t c d = -1 := by simp [mnAt, h]
theorem mnAt_bd {t : Tm} {c : Cy} (hc : CyOk c) (d : Nat) : -1 ≤ mnAt t c d ∧ mnAt t c d < c.n := by
  unfold mnAt
  have h1 := hc.n1
  split
  · have := Int.emod_nonneg (c.f + cnt (stB t c) d) (show c.n ≠ 0 by omega); have := Int.emod_lt_of_pos (c.f + cnt (stB t c) d) (show 0 < c.n by omega); omega
  · omega
theorem mnAt_nonneg {t : Tm} {c : Cy} (hc : CyOk c) (d : Nat) : 0 ≤ mnAt t c d ↔ opB t d = true := by
  cases h : opB t d with
  | true =>
    rw [mnAt_open h]
    have h1 := hc.n1
    have := Int.emod_nonneg (c.f + cnt (stB t c) d) (show c.n ≠ 0 by omega); simp [this]
  | false => rw [mnAt_shut h]; simp
/-- The menus of the first k days, and -1 or 0 behind. -/
def mnTo (t : Tm) (c : Cy) (n k : Nat) : List Int := (List.range n).map fun d => if d < k then mnAt t c d else 0
def mnL (t : Tm) (c : Cy) : List Int := (List.range t.len.toNat).map (mnAt t c)
theorem mnL_length (t : Tm) (c : Cy) : (mnL t c).length = t.len.toNat := by simp [mnL]
theorem mnL_at (t : Tm) (c : Cy) (d : Nat) (h : d < t.len.toNat) : gi (mnL t c) d = mnAt t c d := by simp [gi, mnL, h]
theorem mnTo_length (t : Tm) (c : Cy) (n k : Nat) : (mnTo t c n k).length = n := by simp [mnTo]
theorem mnTo_zero (t : Tm) (c : Cy) (n : Nat) : mnTo t c n 0 = List.replicate n 0 := by
  rw [List.eq_replicate_iff]
  refine ⟨by simp [mnTo], fun b hb => ?_⟩
  obtain ⟨d, _, rfl⟩ := List.mem_map.1 hb
  simp
theorem mnTo_full (t : Tm) (c : Cy) (n : Nat) (h : n = t.len.toNat) : mnTo t c n n = mnL t c := by
  subst h
  unfold mnTo mnL
  apply List.map_congr_left
  intro d hd
  rw [if_pos (List.mem_range.1 hd)]
theorem mnTo_set (t : Tm) (c : Cy) (n k : Nat) (_h : k < n) : (mnTo t c n k).set k (mnAt t c k) = mnTo t c n (k + 1) := by
  apply List.ext_getElem
  · simp [mnTo]
  · intro j h1 h2
    have hj : j < n := by simpa [mnTo] using h2
    rw [List.getElem_set]
    by_cases e : k = j
    · subst e
      simp [mnTo]
    · rw [if_neg e]
      simp only [mnTo, List.getElem_map, List.getElem_range]
      by_cases hlt : j < k
      · rw [if_pos hlt, if_pos (by omega)]
      · rw [if_neg hlt, if_neg (by omega)]
theorem set_twice (l : List Int) (k : Nat) (a b : Int) : (l.set k a).set k b = l.set k b := by simp
theorem next_mod {f s n : Int} (_hn : 1 ≤ n) : ((f + s) % n + 1) % n = (f + (s + 1)) % n := by
  rw [Int.emod_add_emod, Int.add_assoc]

/-! ### the answers -/
def qE (t : Tm) (d : Int) : Int := if tE t ≠ 0 then tE t else if inB d 0 (t.len - 1) then 0 else 1
theorem qE_ok {t : Tm} {d : Int} (h : qE t d = 0) : TmOk t ∧ 0 ≤ d ∧ d < t.len := by
  unfold qE at h
  by_cases h1 : tE t = 0
  · rw [if_neg (by simp [h1])] at h
    cases h2 : inB d 0 (t.len - 1) with
    | false => rw [h2] at h; cases h
    | true => have := inB_true.1 h2; exact ⟨TmOk.of h1, this.1, by omega⟩
  · rw [if_pos h1] at h; exact absurd h h1
def menuE (t : Tm) (c : Cy) (d : Int) : Int := if bE t c ≠ 0 then bE t c else if inB d 0 (t.len - 1) then (if opB t d then 0 else 13) else 1
def menuR (t : Tm) (c : Cy) (d : Int) : Int := if menuE t c d = 0 then mnAt t c d.toNat else 0

end Go.Proofs.YtiapkffihpgdcaaGreatDoor
