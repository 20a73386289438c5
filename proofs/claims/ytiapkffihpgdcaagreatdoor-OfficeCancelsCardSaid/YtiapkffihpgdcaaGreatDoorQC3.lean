import Derived.Test.YtiapkffihpgdcaaGreatDoorQC2
import Derived.Shelf.Lays2
import Derived.Shelf.Lays7
import Derived.Shelf.LaysM
import Derived.Shelf.SlLaysF0
import Derived.Shelf.SlGeneric
import Derived.Ground.NamesProg
import Derived.Ground.Names2Prog
import Derived.Ground.Names7Prog
import Derived.Ground.SlsfProg
import Derived.Test.YtiapkffihpgdcaaGreatDoorProg
import Derived.StillTailTactics
import Derived.IntWalk
import Derived.ScopeJumps
import Derived.WalkMore
import Derived.Deep.RegionHeld3
import Derived.Deep.RegionWith
import Derived.Maps.AppendAt
import Derived.RegionTactic
import Derived.OwnWalk
import Derived.Lib.SliceRun
set_option linter.unusedVariables false
set_option linter.unusedSimpArgs false
set_option maxRecDepth 100000
set_option maxHeartbeats 4000000
namespace Go.Proofs
open Go.Shelf
def Tryz.lsort_ren : Go.Shelf.Ren := ⟨fun | 189 => 274 | 125 => 305 | 257 => 304 | 128 => 320 | 129 => 301 | 294 => 312 | 295 => 313 | 296 => 314 | 297 => 315 | 298 => 316 | 299 => 317 | 216 => 263 | 300 => 318 | 301 => 319 | 328 => 332 | 329 => 333 | 330 => 334 | 331 => 335 | 332 => 336 | 215 => 298 | 343 => 341 | n => n, fun | 28 => 22 | 3 => 3 | 46 => 100 | 0 => 0 | 51 => 130 | 53 => 313 | 4 => 4 | 183 => 346 | 182 => 345 | 131 => 255 | 5 => 5 | 9 => 9 | 218 => 358 | 222 => 362 | 228 => 366 | 229 => 367 | n => n, fun | n => n⟩
theorem Tryz.lsort : Go.Proofs.Lays.n189 Tryz.prog Tryz.lsort_ren := {
  mixed := by kernel_rfl
  f125 := Tryz.func305.trans (congrArg some (by kernel_rfl))
  f128 := Tryz.func320.trans (congrArg some (by kernel_rfl))
  f129 := Tryz.func301.trans (congrArg some (by kernel_rfl))
  f189 := Tryz.func274.trans (congrArg some (by kernel_rfl))
  f215 := Tryz.func298.trans (congrArg some (by kernel_rfl))
  f216 := Tryz.func263.trans (congrArg some (by kernel_rfl))
  f257 := Tryz.func304.trans (congrArg some (by kernel_rfl))
  f294 := Tryz.func312.trans (congrArg some (by kernel_rfl))
  f295 := Tryz.func313.trans (congrArg some (by kernel_rfl))
  f296 := Tryz.func314.trans (congrArg some (by kernel_rfl))
  f297 := Tryz.func315.trans (congrArg some (by kernel_rfl))
  f298 := Tryz.func316.trans (congrArg some (by kernel_rfl))
  f299 := Tryz.func317.trans (congrArg some (by kernel_rfl))
  f300 := Tryz.func318.trans (congrArg some (by kernel_rfl))
  f301 := Tryz.func319.trans (congrArg some (by kernel_rfl))
  f328 := Tryz.func332.trans (congrArg some (by kernel_rfl))
  f329 := Tryz.func333.trans (congrArg some (by kernel_rfl))
  f330 := Tryz.func334.trans (congrArg some (by kernel_rfl))
  f331 := Tryz.func335.trans (congrArg some (by kernel_rfl))
  f332 := Tryz.func336.trans (congrArg some (by kernel_rfl))
  f343 := Tryz.func341.trans (congrArg some (by kernel_rfl))
  t0 := Tryz.underlying0
  a0 := Tryz.isAgg0
  z0 := Tryz.sizeOf0
  v0 := Tryz.zeroValue0
  t3 := Tryz.underlying3
  a3 := Tryz.isAgg3
  z3 := Tryz.sizeOf3
  v3 := Tryz.zeroValue3
  t4 := Tryz.underlying4
  a4 := Tryz.isAgg4
  z4 := Tryz.sizeOf4
  v4 := Tryz.zeroValue4
  t5 := Tryz.underlying5
  a5 := Tryz.isAgg5
  z5 := Tryz.sizeOf5
  v5 := Tryz.zeroValue5
  t9 := Tryz.underlying9
  a9 := Tryz.isAgg9
  z9 := Tryz.sizeOf9
  v9 := Tryz.zeroValue9
  t28 := Tryz.underlying22
  a28 := Tryz.isAgg22
  z28 := Tryz.sizeOf22
  v28 := Tryz.zeroValue22
  t46 := Tryz.underlying100
  a46 := Tryz.isAgg100
  z46 := Tryz.sizeOf100
  v46 := Tryz.zeroValue100
  t51 := Tryz.underlying130
  a51 := Tryz.isAgg130
  z51 := Tryz.sizeOf130
  v51 := Tryz.zeroValue130
  t53 := Tryz.underlying313
  a53 := Tryz.isAgg313
  z53 := Tryz.sizeOf313
  v53 := Tryz.zeroValue313
  t131 := Tryz.underlying255
  a131 := Tryz.isAgg255
  z131 := Tryz.sizeOf255
  v131 := Tryz.zeroValue255
  t182 := Tryz.underlying345
  a182 := Tryz.isAgg345
  z182 := Tryz.sizeOf345
  v182 := Tryz.zeroValue345
  t183 := Tryz.underlying346
  a183 := Tryz.isAgg346
  z183 := Tryz.sizeOf346
  v183 := Tryz.zeroValue346
  t218 := Tryz.underlying358
  a218 := Tryz.isAgg358
  z218 := Tryz.sizeOf358
  v218 := Tryz.zeroValue358
  t222 := Tryz.underlying362
  a222 := Tryz.isAgg362
  z222 := Tryz.sizeOf362
  v222 := Tryz.zeroValue362
  t228 := Tryz.underlying366
  a228 := Tryz.isAgg366
  z228 := Tryz.sizeOf366
  v228 := Tryz.zeroValue366
  t229 := Tryz.underlying367
  a229 := Tryz.isAgg367
  z229 := Tryz.sizeOf367
  v229 := Tryz.zeroValue367 }
def Tryz.lcomp_ren : Go.Shelf.Ren := ⟨fun | 20 => 275 | n => n, fun | 22 => 22 | 3 => 3 | 4 => 4 | 0 => 0 | n => n, fun | n => n⟩
theorem Tryz.lcomp : Go.Proofs.Lays2.n20 Tryz.prog Tryz.lcomp_ren := {
  mixed := by kernel_rfl
  f20 := Tryz.func275.trans (congrArg some (by kernel_rfl))
  t0 := Tryz.underlying0
  a0 := Tryz.isAgg0
  z0 := Tryz.sizeOf0
  v0 := Tryz.zeroValue0
  t3 := Tryz.underlying3
  a3 := Tryz.isAgg3
  z3 := Tryz.sizeOf3
  v3 := Tryz.zeroValue3
  t4 := Tryz.underlying4
  a4 := Tryz.isAgg4
  z4 := Tryz.sizeOf4
  v4 := Tryz.zeroValue4
  t22 := Tryz.underlying22
  a22 := Tryz.isAgg22
  z22 := Tryz.sizeOf22
  v22 := Tryz.zeroValue22
  i3 := by kernel_rfl }
def Tryz.leql_ren : Go.Shelf.Ren := ⟨fun | 111 => 216 | n => n, fun | 28 => 22 | 3 => 3 | 4 => 4 | 0 => 0 | n => n, fun | n => n⟩
theorem Tryz.leql : Go.Proofs.Lays.n111 Tryz.prog Tryz.leql_ren := {
  mixed := by kernel_rfl
  f111 := Tryz.func216.trans (congrArg some (by kernel_rfl))
  t0 := Tryz.underlying0
  a0 := Tryz.isAgg0
  z0 := Tryz.sizeOf0
  v0 := Tryz.zeroValue0
  t3 := Tryz.underlying3
  a3 := Tryz.isAgg3
  z3 := Tryz.sizeOf3
  v3 := Tryz.zeroValue3
  t4 := Tryz.underlying4
  a4 := Tryz.isAgg4
  z4 := Tryz.sizeOf4
  v4 := Tryz.zeroValue4
  t28 := Tryz.underlying22
  a28 := Tryz.isAgg22
  z28 := Tryz.sizeOf22
  v28 := Tryz.zeroValue22 }
def Tryz.lctz_ren : Go.Shelf.Ren := ⟨fun | 27 => 189 | 28 => 259 | 29 => 260 | n => n, fun | 25 => 100 | 3 => 3 | 27 => 130 | 22 => 313 | 4 => 4 | 53 => 334 | 0 => 0 | 5 => 5 | 54 => 335 | n => n, fun | 0 => 2 | 1 => 3 | n => n⟩
theorem Tryz.lctz : Go.Proofs.Lays7.n27 Tryz.prog Tryz.lctz_ren := {
  mixed := by kernel_rfl
  f27 := Tryz.func189.trans (congrArg some (by kernel_rfl))
  f28 := Tryz.func259.trans (congrArg some (by kernel_rfl))
  f29 := Tryz.func260.trans (congrArg some (by kernel_rfl))
  t0 := Tryz.underlying0
  a0 := Tryz.isAgg0
  z0 := Tryz.sizeOf0
  v0 := Tryz.zeroValue0
  i0 := by kernel_rfl
  t3 := Tryz.underlying3
  a3 := Tryz.isAgg3
  z3 := Tryz.sizeOf3
  v3 := Tryz.zeroValue3
  i3 := by kernel_rfl
  t4 := Tryz.underlying4
  a4 := Tryz.isAgg4
  z4 := Tryz.sizeOf4
  v4 := Tryz.zeroValue4
  i4 := by kernel_rfl
  t5 := Tryz.underlying5
  a5 := Tryz.isAgg5
  z5 := Tryz.sizeOf5
  v5 := Tryz.zeroValue5
  i5 := by kernel_rfl
  t22 := Tryz.underlying313
  a22 := Tryz.isAgg313
  z22 := Tryz.sizeOf313
  v22 := Tryz.zeroValue313
  i22 := by kernel_rfl
  t25 := Tryz.underlying100
  a25 := Tryz.isAgg100
  z25 := Tryz.sizeOf100
  v25 := Tryz.zeroValue100
  i25 := by kernel_rfl
  t27 := Tryz.underlying130
  a27 := Tryz.isAgg130
  z27 := Tryz.sizeOf130
  v27 := Tryz.zeroValue130
  i27 := by kernel_rfl
  t53 := Tryz.underlying334
  a53 := Tryz.isAgg334
  z53 := Tryz.sizeOf334
  v53 := Tryz.zeroValue334
  i53 := by kernel_rfl
  t54 := Tryz.underlying335
  a54 := Tryz.isAgg335
  z54 := Tryz.sizeOf335
  g0 := by kernel_rfl
  g1 := by kernel_rfl }
def Tryz.lcut_ren : Go.Shelf.Ren := ⟨fun | 145 => 94 | 220 => 177 | 219 => 247 | 217 => 293 | 225 => 294 | 224 => 295 | 267 => 296 | 266 => 310 | 314 => 311 | n => n, fun | 9 => 9 | 4 => 4 | 59 => 163 | 3 => 3 | 5 => 5 | 46 => 100 | 146 => 342 | 51 => 130 | n => n, fun | 1 => 1 | n => n⟩
theorem Tryz.lcut : Go.Proofs.Lays.n145 Tryz.prog Tryz.lcut_ren := {
  mixed := by kernel_rfl
  f145 := Tryz.func94.trans (congrArg some (by kernel_rfl))
  f217 := Tryz.func293.trans (congrArg some (by kernel_rfl))
  f219 := Tryz.func247.trans (congrArg some (by kernel_rfl))
  f220 := Tryz.func177.trans (congrArg some (by kernel_rfl))
  f224 := Tryz.func295.trans (congrArg some (by kernel_rfl))
  f225 := Tryz.func294.trans (congrArg some (by kernel_rfl))
  f266 := Tryz.func310.trans (congrArg some (by kernel_rfl))
  f267 := Tryz.func296.trans (congrArg some (by kernel_rfl))
  f314 := Tryz.func311.trans (congrArg some (by kernel_rfl))
  t3 := Tryz.underlying3
  a3 := Tryz.isAgg3
  z3 := Tryz.sizeOf3
  v3 := Tryz.zeroValue3
  t4 := Tryz.underlying4
  a4 := Tryz.isAgg4
  z4 := Tryz.sizeOf4
  v4 := Tryz.zeroValue4
  t5 := Tryz.underlying5
  a5 := Tryz.isAgg5
  z5 := Tryz.sizeOf5
  v5 := Tryz.zeroValue5
  t9 := Tryz.underlying9
  a9 := Tryz.isAgg9
  z9 := Tryz.sizeOf9
  v9 := Tryz.zeroValue9
  t46 := Tryz.underlying100
  a46 := Tryz.isAgg100
  z46 := Tryz.sizeOf100
  v46 := Tryz.zeroValue100
  t51 := Tryz.underlying130
  a51 := Tryz.isAgg130
  z51 := Tryz.sizeOf130
  v51 := Tryz.zeroValue130
  t59 := Tryz.underlying163
  a59 := Tryz.isAgg163
  z59 := Tryz.sizeOf163
  v59 := Tryz.zeroValue163
  t146 := Tryz.underlying342
  a146 := Tryz.isAgg342
  z146 := Tryz.sizeOf342
  v146 := Tryz.zeroValue342
  g1 := by kernel_rfl }
def Tryz.lstr_ren : Go.Shelf.Ren := ⟨fun | 169 => 158 | n => n, fun | 70 => 219 | 9 => 9 | 0 => 0 | 72 => 222 | 37 => 220 | 127 => 270 | 3 => 3 | 5 => 5 | n => n, fun | n => n⟩
theorem Tryz.lstr : Go.Proofs.Lays.n169 Tryz.prog Tryz.lstr_ren := {
  mixed := by kernel_rfl
  f169 := Tryz.func158.trans (congrArg some (by kernel_rfl))
  t0 := Tryz.underlying0
  a0 := Tryz.isAgg0
  z0 := Tryz.sizeOf0
  v0 := Tryz.zeroValue0
  t3 := Tryz.underlying3
  a3 := Tryz.isAgg3
  z3 := Tryz.sizeOf3
  v3 := Tryz.zeroValue3
  t9 := Tryz.underlying9
  a9 := Tryz.isAgg9
  z9 := Tryz.sizeOf9
  v9 := Tryz.zeroValue9
  t37 := Tryz.underlying220
  a37 := Tryz.isAgg220
  z37 := Tryz.sizeOf220
  v37 := Tryz.zeroValue220
  t70 := Tryz.underlying219
  a70 := Tryz.isAgg219
  z70 := Tryz.sizeOf219
  v70 := Tryz.zeroValue219
  t72 := Tryz.underlying222
  a72 := Tryz.isAgg222
  z72 := Tryz.sizeOf222
  v72 := Tryz.zeroValue222
  t127 := Tryz.underlying270
  a127 := Tryz.isAgg270
  z127 := Tryz.sizeOf270
  v127 := Tryz.zeroValue270 }
def Tryz.lsrc_ren : Go.Shelf.Ren := ⟨fun | 6 => 287 | 15 => 305 | 14 => 309 | 28 => 320 | 29 => 301 | 20 => 324 | 21 => 325 | 22 => 326 | 23 => 327 | 24 => 328 | 25 => 329 | 26 => 330 | 27 => 331 | 46 => 338 | 47 => 333 | 48 => 334 | 49 => 339 | 50 => 340 | 57 => 342 | n => n, fun | 22 => 46 | 24 => 56 | 25 => 330 | 3 => 3 | 39 => 100 | 0 => 0 | 53 => 130 | 55 => 313 | 4 => 4 | 46 => 346 | 45 => 345 | 50 => 255 | 5 => 5 | 9 => 9 | 66 => 358 | 70 => 362 | 76 => 366 | 77 => 367 | n => n, fun | n => n⟩
theorem Tryz.lsrc : Go.Proofs.SlLaysF0.n6 Tryz.prog Tryz.lsrc_ren := {
  mixed := by kernel_rfl
  f6 := ⟨Tryz.f287.name, by decide, Tryz.func287.trans (congrArg some (by kernel_rfl))⟩
  f14 := ⟨Tryz.f309.name, by decide, Tryz.func309.trans (congrArg some (by kernel_rfl))⟩
  f15 := Tryz.func305.trans (congrArg some (by kernel_rfl))
  f20 := ⟨Tryz.f324.name, by decide, Tryz.func324.trans (congrArg some (by kernel_rfl))⟩
  f21 := ⟨Tryz.f325.name, by decide, Tryz.func325.trans (congrArg some (by kernel_rfl))⟩
  f22 := ⟨Tryz.f326.name, by decide, Tryz.func326.trans (congrArg some (by kernel_rfl))⟩
  f23 := ⟨Tryz.f327.name, by decide, Tryz.func327.trans (congrArg some (by kernel_rfl))⟩
  f24 := ⟨Tryz.f328.name, by decide, Tryz.func328.trans (congrArg some (by kernel_rfl))⟩
  f25 := ⟨Tryz.f329.name, by decide, Tryz.func329.trans (congrArg some (by kernel_rfl))⟩
  f26 := ⟨Tryz.f330.name, by decide, Tryz.func330.trans (congrArg some (by kernel_rfl))⟩
  f27 := ⟨Tryz.f331.name, by decide, Tryz.func331.trans (congrArg some (by kernel_rfl))⟩
  f28 := Tryz.func320.trans (congrArg some (by kernel_rfl))
  f29 := Tryz.func301.trans (congrArg some (by kernel_rfl))
  f46 := ⟨Tryz.f338.name, by decide, Tryz.func338.trans (congrArg some (by kernel_rfl))⟩
  f47 := Tryz.func333.trans (congrArg some (by kernel_rfl))
  f48 := Tryz.func334.trans (congrArg some (by kernel_rfl))
  f49 := ⟨Tryz.f339.name, by decide, Tryz.func339.trans (congrArg some (by kernel_rfl))⟩
  f50 := ⟨Tryz.f340.name, by decide, Tryz.func340.trans (congrArg some (by kernel_rfl))⟩
  f57 := ⟨Tryz.f342.name, by decide, Tryz.func342.trans (congrArg some (by kernel_rfl))⟩
  t0 := Tryz.underlying0
  a0 := Tryz.isAgg0
  z0 := Tryz.sizeOf0
  v0 := Tryz.zeroValue0
  t3 := Tryz.underlying3
  a3 := Tryz.isAgg3
  z3 := Tryz.sizeOf3
  v3 := Tryz.zeroValue3
  t4 := Tryz.underlying4
  a4 := Tryz.isAgg4
  z4 := Tryz.sizeOf4
  v4 := Tryz.zeroValue4
  t5 := Tryz.underlying5
  a5 := Tryz.isAgg5
  z5 := Tryz.sizeOf5
  v5 := Tryz.zeroValue5
  t9 := Tryz.underlying9
  a9 := Tryz.isAgg9
  z9 := Tryz.sizeOf9
  v9 := Tryz.zeroValue9
  t22 := Tryz.underlying46
  a22 := Tryz.isAgg46
  z22 := Tryz.sizeOf46
  v22 := Tryz.zeroValue46
  t25 := Tryz.underlying330
  a25 := Tryz.isAgg330
  z25 := Tryz.sizeOf330
  v25 := Tryz.zeroValue330
  t39 := Tryz.underlying100
  a39 := Tryz.isAgg100
  z39 := Tryz.sizeOf100
  v39 := Tryz.zeroValue100
  t45 := Tryz.underlying345
  a45 := Tryz.isAgg345
  z45 := Tryz.sizeOf345
  v45 := Tryz.zeroValue345
  t46 := Tryz.underlying346
  a46 := Tryz.isAgg346
  z46 := Tryz.sizeOf346
  v46 := Tryz.zeroValue346
  t50 := Tryz.underlying255
  a50 := Tryz.isAgg255
  z50 := Tryz.sizeOf255
  v50 := Tryz.zeroValue255
  t53 := Tryz.underlying130
  a53 := Tryz.isAgg130
  z53 := Tryz.sizeOf130
  v53 := Tryz.zeroValue130
  t55 := Tryz.underlying313
  a55 := Tryz.isAgg313
  z55 := Tryz.sizeOf313
  v55 := Tryz.zeroValue313
  t66 := Tryz.underlying358
  a66 := Tryz.isAgg358
  z66 := Tryz.sizeOf358
  v66 := Tryz.zeroValue358
  t70 := Tryz.underlying362
  a70 := Tryz.isAgg362
  z70 := Tryz.sizeOf362
  v70 := Tryz.zeroValue362
  t76 := Tryz.underlying366
  a76 := Tryz.isAgg366
  z76 := Tryz.sizeOf366
  v76 := Tryz.zeroValue366
  t77 := Tryz.underlying367
  a77 := Tryz.isAgg367
  z77 := Tryz.sizeOf367
  v77 := Tryz.zeroValue367 }
def Tryz.litoa_ren : Go.Shelf.Ren := ⟨fun | 171 => 59 | 243 => 149 | 246 => 217 | 283 => 270 | 284 => 271 | 285 => 272 | 286 => 273 | 129 => 301 | 317 => 300 | 318 => 302 | 319 => 303 | 320 => 189 | 337 => 259 | 338 => 260 | n => n, fun | 3 => 3 | 9 => 9 | 2 => 2 | 4 => 4 | 171 => 315 | 0 => 0 | 53 => 313 | 37 => 220 | 5 => 5 | 173 => 317 | 212 => 337 | 51 => 130 | 20 => 20 | 213 => 338 | 46 => 100 | 232 => 334 | 233 => 335 | n => n, fun | 17 => 4 | 18 => 2 | 19 => 3 | n => n⟩
theorem Tryz.litoa : Go.Proofs.LaysM.n171 Tryz.prog Tryz.litoa_ren := {
  mixed := by kernel_rfl
  f129 := Tryz.func301.trans (congrArg some (by kernel_rfl))
  f171 := Tryz.func59.trans (congrArg some (by kernel_rfl))
  f243 := Tryz.func149.trans (congrArg some (by kernel_rfl))
  f246 := Tryz.func217.trans (congrArg some (by kernel_rfl))
  f283 := Tryz.func270.trans (congrArg some (by kernel_rfl))
  f284 := Tryz.func271.trans (congrArg some (by kernel_rfl))
  f285 := Tryz.func272.trans (congrArg some (by kernel_rfl))
  f286 := Tryz.func273.trans (congrArg some (by kernel_rfl))
  f317 := Tryz.func300.trans (congrArg some (by kernel_rfl))
  f318 := Tryz.func302.trans (congrArg some (by kernel_rfl))
  f319 := Tryz.func303.trans (congrArg some (by kernel_rfl))
  f320 := Tryz.func189.trans (congrArg some (by kernel_rfl))
  f337 := Tryz.func259.trans (congrArg some (by kernel_rfl))
  f338 := Tryz.func260.trans (congrArg some (by kernel_rfl))
  t0 := Tryz.underlying0
  a0 := Tryz.isAgg0
  z0 := Tryz.sizeOf0
  v0 := Tryz.zeroValue0
  t2 := Tryz.underlying2
  a2 := Tryz.isAgg2
  z2 := Tryz.sizeOf2
  v2 := Tryz.zeroValue2
  t3 := Tryz.underlying3
  a3 := Tryz.isAgg3
  z3 := Tryz.sizeOf3
  v3 := Tryz.zeroValue3
  t4 := Tryz.underlying4
  a4 := Tryz.isAgg4
  z4 := Tryz.sizeOf4
  v4 := Tryz.zeroValue4
  t5 := Tryz.underlying5
  a5 := Tryz.isAgg5
  z5 := Tryz.sizeOf5
  v5 := Tryz.zeroValue5
  t9 := Tryz.underlying9
  a9 := Tryz.isAgg9
  z9 := Tryz.sizeOf9
  v9 := Tryz.zeroValue9
  t20 := Tryz.underlying20
  a20 := Tryz.isAgg20
  z20 := Tryz.sizeOf20
  v20 := Tryz.zeroValue20
  t37 := Tryz.underlying220
  a37 := Tryz.isAgg220
  z37 := Tryz.sizeOf220
  v37 := Tryz.zeroValue220
  t46 := Tryz.underlying100
  a46 := Tryz.isAgg100
  z46 := Tryz.sizeOf100
  v46 := Tryz.zeroValue100
  t51 := Tryz.underlying130
  a51 := Tryz.isAgg130
  z51 := Tryz.sizeOf130
  v51 := Tryz.zeroValue130
  t53 := Tryz.underlying313
  a53 := Tryz.isAgg313
  z53 := Tryz.sizeOf313
  v53 := Tryz.zeroValue313
  t171 := Tryz.underlying315
  a171 := Tryz.isAgg315
  z171 := Tryz.sizeOf315
  v171 := Tryz.zeroValue315
  t173 := Tryz.underlying317
  a173 := Tryz.isAgg317
  z173 := Tryz.sizeOf317
  v173 := Tryz.zeroValue317
  t212 := Tryz.underlying337
  a212 := Tryz.isAgg337
  z212 := Tryz.sizeOf337
  v212 := Tryz.zeroValue337
  t213 := Tryz.underlying338
  a213 := Tryz.isAgg338
  z213 := Tryz.sizeOf338
  t232 := Tryz.underlying334
  a232 := Tryz.isAgg334
  z232 := Tryz.sizeOf334
  v232 := Tryz.zeroValue334
  t233 := Tryz.underlying335
  a233 := Tryz.isAgg335
  z233 := Tryz.sizeOf335
  v233 := Tryz.zeroValue335
  g17 := by kernel_rfl
  g18 := by kernel_rfl
  g19 := by kernel_rfl
  i0 := by kernel_rfl
  i2 := by kernel_rfl
  i3 := by kernel_rfl
  i4 := by kernel_rfl
  i5 := by kernel_rfl
  i9 := by kernel_rfl
  i20 := by kernel_rfl
  i37 := by kernel_rfl
  i46 := by kernel_rfl
  i51 := by kernel_rfl
  i53 := by kernel_rfl
  i171 := by kernel_rfl
  i173 := by kernel_rfl
  i212 := by kernel_rfl
  i232 := by kernel_rfl
  i233 := by kernel_rfl
  m17 := by kernel_rfl
  m18 := by kernel_rfl
  m19 := by kernel_rfl }
def Tryz.lsplit_ren : Go.Shelf.Ren := ⟨fun | 146 => 231 | 221 => 284 | 268 => 306 | 138 => 307 | 143 => 308 | 195 => 321 | 197 => 322 | 218 => 323 | 219 => 247 | 260 => 337 | 217 => 293 | 225 => 294 | 224 => 295 | 267 => 296 | 266 => 310 | 314 => 311 | n => n, fun | 9 => 9 | 31 => 33 | 3 => 3 | 4 => 4 | 0 => 0 | 105 => 351 | 21 => 21 | 5 => 5 | 46 => 100 | 119 => 369 | 139 => 372 | 138 => 371 | 146 => 342 | 51 => 130 | n => n, fun | 1 => 1 | 3 => 5 | 4 => 6 | n => n⟩
theorem Tryz.lsplit : Go.Proofs.Lays.n146 Tryz.prog Tryz.lsplit_ren := {
  mixed := by kernel_rfl
  f138 := Tryz.func307.trans (congrArg some (by kernel_rfl))
  f143 := Tryz.func308.trans (congrArg some (by kernel_rfl))
  f146 := Tryz.func231.trans (congrArg some (by kernel_rfl))
  f195 := Tryz.func321.trans (congrArg some (by kernel_rfl))
  f197 := Tryz.func322.trans (congrArg some (by kernel_rfl))
  f217 := Tryz.func293.trans (congrArg some (by kernel_rfl))
  f218 := Tryz.func323.trans (congrArg some (by kernel_rfl))
  f219 := Tryz.func247.trans (congrArg some (by kernel_rfl))
  f221 := Tryz.func284.trans (congrArg some (by kernel_rfl))
  f224 := Tryz.func295.trans (congrArg some (by kernel_rfl))
  f225 := Tryz.func294.trans (congrArg some (by kernel_rfl))
  f260 := Tryz.func337.trans (congrArg some (by kernel_rfl))
  f266 := Tryz.func310.trans (congrArg some (by kernel_rfl))
  f267 := Tryz.func296.trans (congrArg some (by kernel_rfl))
  f268 := Tryz.func306.trans (congrArg some (by kernel_rfl))
  f314 := Tryz.func311.trans (congrArg some (by kernel_rfl))
  t0 := Tryz.underlying0
  a0 := Tryz.isAgg0
  z0 := Tryz.sizeOf0
  v0 := Tryz.zeroValue0
  t3 := Tryz.underlying3
  a3 := Tryz.isAgg3
  z3 := Tryz.sizeOf3
  v3 := Tryz.zeroValue3
  t4 := Tryz.underlying4
  a4 := Tryz.isAgg4
  z4 := Tryz.sizeOf4
  v4 := Tryz.zeroValue4
  t5 := Tryz.underlying5
  a5 := Tryz.isAgg5
  z5 := Tryz.sizeOf5
  v5 := Tryz.zeroValue5
  t9 := Tryz.underlying9
  a9 := Tryz.isAgg9
  z9 := Tryz.sizeOf9
  v9 := Tryz.zeroValue9
  t21 := Tryz.underlying21
  a21 := Tryz.isAgg21
  z21 := Tryz.sizeOf21
  v21 := Tryz.zeroValue21
  t31 := Tryz.underlying33
  a31 := Tryz.isAgg33
  z31 := Tryz.sizeOf33
  v31 := Tryz.zeroValue33
  t46 := Tryz.underlying100
  a46 := Tryz.isAgg100
  z46 := Tryz.sizeOf100
  v46 := Tryz.zeroValue100
  t51 := Tryz.underlying130
  a51 := Tryz.isAgg130
  z51 := Tryz.sizeOf130
  v51 := Tryz.zeroValue130
  t105 := Tryz.underlying351
  a105 := Tryz.isAgg351
  z105 := Tryz.sizeOf351
  v105 := Tryz.zeroValue351
  t119 := Tryz.underlying369
  a119 := Tryz.isAgg369
  z119 := Tryz.sizeOf369
  t138 := Tryz.underlying371
  a138 := Tryz.isAgg371
  z138 := Tryz.sizeOf371
  v138 := Tryz.zeroValue371
  t139 := Tryz.underlying372
  a139 := Tryz.isAgg372
  z139 := Tryz.sizeOf372
  v139 := Tryz.zeroValue372
  t146 := Tryz.underlying342
  a146 := Tryz.isAgg342
  z146 := Tryz.sizeOf342
  v146 := Tryz.zeroValue342
  g1 := by kernel_rfl
  g3 := by kernel_rfl
  g4 := by kernel_rfl }
end Go.Proofs
namespace Go.Proofs.YtiapkffihpgdcaaGreatDoor
open Go.RowKit
theorem rmenusR_any (t:Tm)(c:Cy)(A1 A2:Option Addr)(c1 c2:Nat)(w:World)(h1:RN w A1 t.rest)(h2:RN w A2 t.clo)(hok:TmOk t)(hcy:CyOk c) :
  Calls Tryz.prog 200 #[.agg #[.int .i64 t.len,.slice A1 t.rest.length c1,.slice A2 t.clo.length c2],.agg #[.int .i64 c.n,.int .i64 c.f,.int .i64 c.k]] w fun e w'=>∃A c',e=.returned (.slice A (mnL t c).length c')∧RN w' A (mnL t c)∧Below w.heap.size w w' :=
 (rmenus_any t c A1 A2 c1 c2 w h1 h2 hok hcy).mono fun e w' ⟨A,n,c',he,hn,own,hb⟩=>⟨A,c',by rw [← hn];exact he,RN.of_own own,hb⟩
/-- Block g holds just the cells cs,and can be written. -/
structure Box (w:World) (g:Nat) (cs:Array Value):Prop where
 lt:g<w.heap.size
 cell:∀j,w.cell? ⟨g,j,none⟩=cs[j]?
 free:∀j,w.frozen? ⟨g,j,none⟩=false
theorem Box.below {w w':World}{g:Nat}{cs:Array Value}(h:Box w g cs)(hb:Below w.heap.size w w'):Box w' g cs :=
 ⟨Nat.lt_of_lt_of_le h.lt hb.size,fun j=>(hb.cell (p:=⟨g,j,none⟩) h.lt).trans (h.cell j),fun j=>(hb.frozen (p:=⟨g,j,none⟩) h.lt).trans (h.free j)⟩
theorem Box.new (w:World)(t:TypeId)(cs:Array Value):Box (w.alloc (.cells cs t)) w.heap.size cs :=
 ⟨by simp,fun j=>by simp [World.cell?_alloc_at],fun j=>by simp [go_sem]⟩
theorem Box.alloc {w:World}{g:Nat}{cs:Array Value}(h:Box w g cs)(o:Obj):Box (w.alloc o) g cs:=h.below ((Below.refl _ _).alloc (Nat.le_refl _) _)
theorem Box.at' {w:World}{g g':Nat}{cs:Array Value}(h:Box w g cs)(e:g=g'):Box w g' cs:=e ▸ h
theorem Box.drewN {w:World}{g:Nat}{cs:Array Value}(h:Box w g cs)(n:Nat):Box (w.drewN n) g cs:=⟨h.lt,h.cell,h.free⟩
theorem Box.ne {w:World}{g:Nat}{cs:Array Value}(h:Box w g cs):¬ g=w.heap.size:=Nat.ne_of_lt h.lt
def daysTo (t:Tm)(c:Cy)(m:Int):Nat→List Int
 | 0=>[]
 | k+1=>if mnAt t c k == m then daysTo t c m k ++ [(k:Int)] else daysTo t c m k
theorem daysTo_yes {t:Tm}{c:Cy}{m:Int}{k:Nat}(h:(mnAt t c k == m)=true):daysTo t c m (k+1)=daysTo t c m k ++ [(k:Int)]:=by simp only [daysTo];rw [if_pos h]
theorem daysTo_no {t:Tm}{c:Cy}{m:Int}{k:Nat}(h:(mnAt t c k == m)=false):daysTo t c m (k+1)=daysTo t c m k:=by simp only [daysTo];rw [if_neg (by rw [h];simp)]
theorem daysTo_len (t:Tm)(c:Cy)(m:Int)(k:Nat):(daysTo t c m k).length=cnt (fun d=>mnAt t c d == m) k:=by
 induction k with
 | zero=>rfl
 | succ k ih =>
  cases h:(mnAt t c k == m) with
  | true=>rw [daysTo_yes h,cnt_yes _ _ h,List.length_append,ih];rfl
  | false=>rw [daysTo_no h,cnt_no _ _ h,ih]
theorem daysTo_le (t:Tm)(c:Cy)(m:Int)(k:Nat):(daysTo t c m k).length≤k:=by rw [daysTo_len];exact cnt_le _ _
def daysE (t:Tm)(c:Cy)(m:Int):Int:=if bE t c≠0 then bE t c else if inB m 0 (c.n-1) then 0 else 1
def daysR (t:Tm)(c:Cy)(m:Int):List Int:=if daysE t c m=0 then daysTo t c m t.len.toNat else []
def RetIn (w0:World)(L:List Int)(er:Int)(e:Ending)(w':World):Prop :=
 ∃A c,e=.returned (.tuple #[.slice A L.length c,.int .i64 er])∧OwnN w' w0.heap.size A c L∧Below w0.heap.size w0 w'
theorem rdays_any (m:Int)(c:Cy)(t:Tm)(A1 A2:Option Addr)(c1 c2:Nat)(w:World)(h1:RN w A1 t.rest)(h2:RN w A2 t.clo)(hl1:t.rest.length≤1000000000)(hl2:t.clo.length≤1000000000) :
  Calls Tryz.prog 133 #[.agg #[.int .i64 t.len,.slice A1 t.rest.length c1,.slice A2 t.clo.length c2],.agg #[.int .i64 c.n,.int .i64 c.f,.int .i64 c.k],.int .i64 m] w (RetIn w (daysR t c m) (daysE t c m)):=by
 obtain ⟨E,hE⟩:∃E,E=daysE t c m:=⟨_,rfl⟩
 obtain ⟨R,hR⟩:∃R,R=daysR t c m:=⟨_,rfl⟩
 rw [← hE,← hR]
 have HE:=Lib.hid hE
 have HR:=Lib.hid hR
 clear hE hR
 have hy:Below w.heap.size w ((w.alloc (.cells #[.int .i64 t.len,.slice A1 t.rest.length c1,.slice A2 t.clo.length c2] 24)).alloc (.cells #[.int .i64 c.n,.int .i64 c.f,.int .i64 c.k] 26)):=((Below.refl _ _).alloc (Nat.le_refl _) _).alloc (by simp) _
 have b0:Box ((w.alloc (.cells #[.int .i64 t.len,.slice A1 t.rest.length c1,.slice A2 t.clo.length c2] 24)).alloc (.cells #[.int .i64 c.n,.int .i64 c.f,.int .i64 c.k] 26)) w.heap.size #[.int .i64 t.len,.slice A1 t.rest.length c1,.slice A2 t.clo.length c2]:=(Box.new w _ _).alloc _
 have b1:Box ((w.alloc (.cells #[.int .i64 t.len,.slice A1 t.rest.length c1,.slice A2 t.clo.length c2] 24)).alloc (.cells #[.int .i64 c.n,.int .i64 c.f,.int .i64 c.k] 26)) (w.heap.size+1) #[.int .i64 c.n,.int .i64 c.f,.int .i64 c.k]:=(Box.new (w.alloc (.cells #[.int .i64 t.len,.slice A1 t.rest.length c1,.slice A2 t.clo.length c2] 24)) _ _).at' (by simp)
 replace h1:=h1.below hy
 replace h2:=h2.below hy
 go_enter Tryz.func133,Tryz.ntmps133
 go_wp2_with fail
 refine (rboth_any c t A1 A2 c1 c2 _ h1 h2 hl1 hl2).mono ?_
 rintro e w1 ⟨rfl,hb1⟩
 replace b0:=b0.below hb1;replace b1:=b1.below hb1;replace h1:=h1.below hb1;replace h2:=h2.below hb1;replace hy:=hy.trans (hb1.mono hy.size)
 clear hb1
 by_cases h0:bE t c=0
 ·have h0':(bE t c != 0)=false:=by simp [h0]
  obtain ⟨hok,hcy⟩:=bE_ok h0
  have hEm:E=if inB m 0 (c.n-1) then 0 else 1:=by rw [HE.out,daysE,if_neg (by simp [h0])]
  have HEM:=Lib.hid hEm
  have n1:=hcy.n1
  have n2:=hcy.n2
  have ln1:=hok.len1
  have ln2:=hok.len2
  clear h0 hEm
  cases hi:inB m 0 (c.n-1) with
  | false =>
   have hEv:E=1:=by rw [HEM.out,hi];rfl
   have hRv:R=[]:=by rw [HR.out,daysR,if_neg (by rw [← HE.out,hEv];decide)]
   have H1:=Lib.hid hEv
   have H2:=Lib.hid hRv
   clear hEv hRv
   have xx0:=b0.cell;have nn0:=b0.lt;have xx1:=b1.cell;have nn1:=b1.lt
   go_wp2_with (go_at_call 194;refine (within_any _ _ _ _).mono ?_;rintro e w' ⟨rfl,hw'⟩;subst hw')
   clear xx0 nn0 xx1 nn1
   go_ret2
   exact ⟨none,0,ret2 (by rw [H2.out];rfl) (by rw [H1.out];rfl),by rw [H2.out];exact World.ownsRow_nil _ _ _ _,hy⟩
  | true =>
   have hEv:E=0:=by rw [HEM.out,hi];rfl
   have hRv:R=daysTo t c m t.len.toNat:=by rw [HR.out,daysR,if_pos (by rw [← HE.out,hEv])]
   have H1:=Lib.hid hEv
   have H2:=Lib.hid hRv
   have hml:=mnL_length t c
   have HML:=Lib.hid hml
   clear hEv hRv hml
   have xx0:=b0.cell;have nn0:=b0.lt;have xx1:=b1.cell;have nn1:=b1.lt
   go_wp2_with (go_at_call 194;refine (within_any _ _ _ _).mono ?_;rintro e w' ⟨rfl,hw'⟩;have hw'':=hw'.symm;clear hw';subst hw'')
   clear xx0 nn0 xx1 nn1
   refine (rmenusR_any t c A1 A2 c1 c2 _ h1 h2 hok hcy).mono ?_
   rintro e w2 ⟨Am,cm,rfl,hrn,hb2⟩
   replace hy:=hy.trans (hb2.mono hy.size)
   have hz:=hy.size
   clear b0 b1 h1 h2 hb2
   go_wp2
   go_loopw [9,11] (fun o x wr=>∃k:Nat,k≤(mnL t c).length∧x=.int .i64 k∧∃A c',o=.slice A (daysTo t c m k).length c'∧OwnN wr w2.heap.size A c' (daysTo t c m k)∧Below w2.heap.size w2 wr) (fun _ x _=>(mnL t c).length-(intOf x).toNat)
   case atStart=>exact ⟨0,by omega,rfl,none,0,rfl,World.ownsRow_nil _ _ _ _,Below.refl _ _⟩
   case round =>
    obtain ⟨k,hk,rfl,A,c',rfl,own,hbl⟩:=hrel
    by_cases hlt:k<(mnL t c).length
    ·have hq:=HML.out
     obtain ⟨ad,rfl,hab,e0⟩:=(hrn.below hbl).at_ hlt
     rw [mnL_at t c k (by omega)] at e0
     have hll:=daysTo_le t c m k
     have hkb:k<1000:=by omega
     have hbs:=hbl.size
     clear hq
     cases hq:(mnAt t c k == m) with
     | true =>
      have hs:=daysTo_yes hq
      have HS:=Lib.hid hs
      clear hs
      go_wp2_with (at_builtin;refine wpList_app1 rfl _ _ rfl Tryz.underlying22 info_int rfl (by omega) rfl own rfl rfl (by simp [Value.oneCell']) (by omega) (by omega) (by omega) ?_;intro A' c'' w3 own3 hb3)
      go_roundw
      case rel=>exact ⟨k+1,by omega,by go_num,A',c'',by rw [HS.out,List.length_append];rfl,OwnN.snoc own3 rfl HS.out,hbl.trans (hb3 _ (Nat.le_refl _))⟩
      case measure=>simp [intOf];omega
     | false =>
      have hs:=daysTo_no hq
      have HS:=Lib.hid hs
      clear hs
      go_wp2
      go_roundw
      case rel=>exact ⟨k+1,by omega,by go_num,A,c',by rw [HS.out],by rw [HS.out];exact own,hbl⟩
      case measure=>simp [intOf];omega
    ·have hkl:k=t.len.toNat:=by have:=HML.out;omega
     have HKL:=Lib.hid hkl
     clear hkl
     go_wp2
     go_ret2
     exact ⟨A,c',ret2 (by rw [H2.out,← HKL.out];rfl) (by rw [H1.out];rfl),by rw [H2.out,← HKL.out];exact own_base own hz,hy.trans (hbl.mono hz)⟩
 ·have h0':(bE t c != 0)=true:=by simp [h0]
  have hEv:E=bE t c:=by rw [HE.out,daysE,if_pos h0]
  have hRv:R=[]:=by rw [HR.out,daysR,if_neg (by rw [← HE.out,hEv];exact h0)]
  have H1:=Lib.hid hEv
  have H2:=Lib.hid hRv
  clear hEv hRv h0
  go_wp2
  go_ret2
  exact ⟨none,0,ret2 (by rw [H2.out];rfl) (by rw [H1.out];rfl),by rw [H2.out];exact World.ownsRow_nil _ _ _ _,hy⟩
theorem take_gi {l:List Int}{k:Nat}(h:k<l.length):l.take (k+1)=l.take k ++ [gi l k]:=by
 rw [List.take_add_one];simp [gi,h]
theorem copyInts_any (l:List Int)(A:Option Addr)(c:Nat)(w:World)(hl:RN w A l)(hb:l.length≤1000000) :
  Calls Tryz.prog 197 #[.slice A l.length c] w fun e w'=>∃A' c',e=.returned (.slice A' l.length c')∧OwnN w' w.heap.size A' c' l∧Below w.heap.size w w':=by
 go_enter Tryz.func197,Tryz.ntmps197
 go_wp2
 go_loopw [3,4] (fun o x wr=>∃k:Nat,k≤l.length∧x=.int .i64 k∧∃A' c',o=.slice A' (l.take k).length c'∧OwnN wr w.heap.size A' c' (l.take k)∧Below w.heap.size w wr) (fun _ x _=>l.length-(intOf x).toNat)
 case atStart=>exact ⟨0,by omega,rfl,none,0,rfl,World.ownsRow_nil _ _ _ _,Below.refl _ _⟩
 case round =>
  obtain ⟨k,hk,rfl,A',c',rfl,own,hy⟩:=hrel
  have hll:(l.take k).length=k:=by rw [List.length_take];omega
  by_cases hlt:k<l.length
  ·obtain ⟨ad,rfl,hab,e0⟩:=(hl.below hy).at_ hlt
   have hs:=take_gi hlt
   have HS:=Lib.hid hs
   have hbs:=hy.size
   clear hs
   go_wp2_with (at_builtin;refine wpList_app1 rfl _ _ rfl Tryz.underlying22 info_int rfl (by omega) rfl own rfl rfl (by simp [Value.oneCell']) (by omega) (by omega) (by omega) ?_;intro A'' c'' w3 own3 hb3)
   go_roundw
   case rel=>exact ⟨k+1,by omega,by go_num,A'',c'',by rw [HS.out,List.length_append,hll];rfl,OwnN.snoc own3 rfl (by rw [HS.out]),hy.trans (hb3 _ (Nat.le_refl _))⟩
   case measure=>simp [intOf];omega
  ·have hkl:k=l.length:=by omega
   subst hkl
   rw [List.take_length] at own ⊢
   go_wp2
   go_ret
   exact ⟨A',c',rfl,own,hy⟩
theorem copy_any (t:Tm)(A1 A2:Option Addr)(c1 c2:Nat)(w:World)(h1:RN w A1 t.rest)(h2:RN w A2 t.clo)(hl1:t.rest.length≤1000000)(hl2:t.clo.length≤1000000) :
  Calls Tryz.prog 131 #[.agg #[.int .i64 t.len,.slice A1 t.rest.length c1,.slice A2 t.clo.length c2]] w fun e w'=>∃A c A' c',e=.returned (.agg #[.int .i64 t.len,.slice A t.rest.length c,.slice A' t.clo.length c'])∧OwnN w' w.heap.size A c t.rest∧OwnN w' w.heap.size A' c' t.clo∧Below w.heap.size w w':=by
 obtain ⟨w2,hw2⟩:∃w2,((w.alloc (.cells #[.int .i64 t.len,.slice A1 t.rest.length c1,.slice A2 t.clo.length c2] 24)).alloc (.cells #[.int .i64 0,.slice none 0 0,.slice none 0 0] 24))=w2:=⟨_,rfl⟩
 have hy:Below w.heap.size w w2:=by rw [← hw2];exact ((Below.refl _ w).alloc (Nat.le_refl _) _).alloc (by simp) _
 have b0:Box w2 w.heap.size #[.int .i64 t.len,.slice A1 t.rest.length c1,.slice A2 t.clo.length c2]:=by rw [← hw2];exact (Box.new w _ _).alloc _
 have b1:Box w2 (w.heap.size+1) #[.int .i64 0,.slice none 0 0,.slice none 0 0]:=by rw [← hw2];exact (Box.new (w.alloc (.cells #[.int .i64 t.len,.slice A1 t.rest.length c1,.slice A2 t.clo.length c2] 24)) _ _).at' (by simp)
 have r1:=h1.below hy
 have r2:=h2.below hy
 have d1:RN w2.drew A1 t.rest:=r1
 have d2:RN w2.drew A2 t.clo:=r2
 have x0:=b0.cell 0;have x1:=b0.cell 1;have x2:=b0.cell 2
 have f0:=b1.free 0;have f1:=b1.free 1;have f2:=b1.free 2
 have b0d:=b0.drewN 1
 have b1d:=b1.drewN 1
 simp only [gqA,gqB,gqC] at x0 x1 x2
 have hsz:w.heap.size+1<w2.heap.size:=b1.lt
 go_enter Tryz.func131,Tryz.ntmps131
 go_wp2_with fail
 go_cut [11] (fun s wx=>∃A c A' c',wx.cell? ⟨w.heap.size+1,0,none⟩=some (.int .i64 t.len)∧wx.cell? ⟨w.heap.size+1,1,none⟩=some (.slice A t.rest.length c)∧wx.cell? ⟨w.heap.size+1,2,none⟩=some (.slice A' t.clo.length c')∧OwnN wx w2.heap.size A c t.rest∧OwnN wx w2.heap.size A' c' t.clo∧Below w.heap.size w wx)
 case first =>
  go_region_held3 (fun w'=>w'.cell? ⟨w.heap.size,0,none⟩=some (.int .i64 t.len)∧w'.cell? ⟨w.heap.size,1,none⟩=some (.slice A1 t.rest.length c1)∧w'.cell? ⟨w.heap.size,2,none⟩=some (.slice A2 t.clo.length c2)∧w'.frozen? ⟨w.heap.size+1,0,none⟩=false∧w'.frozen? ⟨w.heap.size+1,1,none⟩=false∧w'.frozen? ⟨w.heap.size+1,2,none⟩=false)
   (first | go_keep | (go_split_ands;refine ⟨?_,?_,?_,?_,?_,?_⟩ <;> ((first | rw [hbB.cell (by first | omega | (simp;omega))] | rw [hbB.frozen (by first | omega | (simp;omega))]);go_keep)) | (go_split_ands;refine ⟨?_,?_,?_,?_,?_,?_⟩ <;> ((first | rw [hbA.cell (by first | omega | (simp;omega))] | rw [hbA.frozen (by first | omega | (simp;omega))]);go_keep)) | (go_split_ands;refine ⟨?_,?_,?_,?_,?_,?_⟩ <;> simp [*,go_sem]))
   (first | (go_at_call 197;(with_reducible refine (copyInts_any t.rest A1 c1 _ d1 (by omega)).mono ?_);rintro e wA ⟨AA,cA,rfl,ownA,hbA⟩;have hsA:w2.heap.size≤wA.heap.size:=hbA.size) | (go_at_call 197;(with_reducible refine (copyInts_any t.clo A2 c2 _ (d2.below hbA) (by omega)).mono ?_);rintro e wB ⟨AB,cB,rfl,ownB,hbB⟩;have hsB:wA.heap.size≤wB.heap.size:=hbB.size;have z0B:wB.cell? ⟨w.heap.size+1,0,none⟩=some (.int .i64 0):=(((b1d.below hbA).below hbB).cell 0).trans rfl;have z1B:wB.cell? ⟨w.heap.size+1,1,none⟩=some (.slice none 0 0):=(((b1d.below hbA).below hbB).cell 1).trans rfl;have z2B:wB.cell? ⟨w.heap.size+1,2,none⟩=some (.slice none 0 0):=(((b1d.below hbA).below hbB).cell 2).trans rfl))
  ·go_wp2_with fail
   go_meet
   have hz:Below w.heap.size w wB:=hy.trans ((((Below.refl w2.heap.size w2).drew.trans hbA).trans (hbB.mono hsA)).mono hy.size)
   have hz3:=((hz.setCell (p:=⟨w.heap.size+1,0,none⟩) (by show w.heap.size≤w.heap.size+1;omega) (.int .i64 t.len)).setCell (p:=⟨w.heap.size+1,1,none⟩) (by show w.heap.size≤w.heap.size+1;omega) (.slice AA t.rest.length cA)).setCell (p:=⟨w.heap.size+1,2,none⟩) (by show w.heap.size≤w.heap.size+1;omega) (.slice AB t.clo.length cB)
   refine ⟨AA,cA,AB,cB,?_,?_,?_,?_,?_,hz3⟩
   ·rw [World.cell?_setCell_other _ _ _ _ (by simp),World.cell?_setCell_other _ _ _ _ (by simp),World.cell?_setCell_same' _ _ _ (by rw [z0B];rfl)]
   ·rw [World.cell?_setCell_other _ _ _ _ (by simp),World.cell?_setCell_same' _ _ _ (by rw [World.cell?_setCell_other _ _ _ _ (by simp),z1B];rfl)]
   ·rw [World.cell?_setCell_same' _ _ _ (by rw [World.cell?_setCell_other _ _ _ _ (by simp),World.cell?_setCell_other _ _ _ _ (by simp),z2B];rfl)]
   ·exact ownsRow_setCell_below (ownsRow_setCell_below (ownsRow_setCell_below (ownA.kept hbB) hsz _) hsz _) hsz _
   ·exact own_base (ownsRow_setCell_below (ownsRow_setCell_below (ownsRow_setCell_below ownB (show w.heap.size+1<wA.heap.size by omega) _) (show w.heap.size+1<wA.heap.size by omega) _) (show w.heap.size+1<wA.heap.size by omega) _) hsA
 case rest =>
  obtain ⟨A,c,A',c',q0,q1,q2,own1,own2,hb⟩:=hcut
  go_wp2_with fail
  refine bodyPost_ret (v:=.agg #[.int .i64 t.len,.slice A t.rest.length c,.slice A' t.clo.length c']) (by simp [results,Tryz.results131,go_sem,q0,q1,q2]) rfl ?_
  exact ⟨A,c,A',c',rfl,own_base own1 (by omega),own_base own2 (by omega),hb⟩
section
variable {P:Program}(w:World)
theorem run_append_of_nil (base:Nat)(t ty e:TypeId)(i:TypeInfo)(size:Nat)(ht:P.underlying t=some (.slice e))(hi:P.info? e=some i)
  (v:Value) (n:Nat) (xs:List Value) (hown:w.ownsRow base e size v n xs) (c:Nat):(Builtin.append_ #[t,t] ty #[v,.slice none 0 c]).run P w=.ok v w:=by
 rcases hown.2 with ⟨rfl,rfl⟩ | ⟨g,cap,cur,rfl,_,_,hnc,_⟩
 ·simp [Builtin.append_,run_underlying ht,sizeOf,typeInfo,hi,Builtin.lenOf,Builtin.firstCells]
 ·simp [Builtin.append_,run_underlying ht,sizeOf,typeInfo,hi,Builtin.lenOf,Builtin.firstCells,hnc,storeCells]
theorem run_append_any (base:Nat)(t ty e:TypeId)(i:TypeInfo)(z:Value)(size bytes:Nat)(ht:P.underlying t=some (.slice e))(hi:P.info? e=some i)(hz:i.zero=some z)
  (hsize:i.size=size) (hby:i.bytes=bytes) (hzs:z.cells.size=size) (hsz:0<size)
  (v:Value) (n:Nat) (xs:List Value) (hown:w.ownsRow base e size v n xs)
  (B:Nat) (A:Option Addr) (m c:Nat) (news:List Value) (hr:Reads w B size A m news) (h1:∀u ∈ news,u.oneCell'=true)
  (h63:n+m≤maxLen) (hbytes:(n+m)*bytes≤140737488355328) (hbase:base≤w.heap.size) :
  ∃v' w',(Builtin.append_ #[t,t] ty #[v,.slice A m c]).run P w=.ok v' w'∧w'.ownsRow base e size v' (n+m) (xs ++ news)∧w.grownBy w' v.ownBlock ∧
   (v'.ownBlock=v.ownBlock∨v'.ownBlock=some w.heap.size):=by
 rcases A with _ | ad
 ·have hm:m=0:=by
   rcases Nat.eq_zero_or_pos m with h0 | h0
   ·exact h0
   ·obtain ⟨ad,h,_⟩:=hr.2 h0
    cases h
  subst hm
  have hn:news=[]:=List.eq_nil_of_length_eq_zero (by simpa using hr.1)
  subst hn
  exact ⟨v,w,run_append_of_nil w base t ty e i size ht hi v n xs hown c,by simpa using hown,World.grownBy.refl w _,.inl rfl⟩
 ·have hcells:∀j u,news[j]? = some u→w.cell? (ad.add j)=some u:=by
   intro j u hu
   rcases Nat.eq_zero_or_pos m with h0 | h0
   ·subst h0
    have hn:news=[]:=List.eq_nil_of_length_eq_zero (by simpa using hr.1)
    subst hn
    simp at hu
   ·obtain ⟨ad',h,_,hc⟩:=hr.2 h0
    injection h with h
    subst h
    exact hc j u hu
  obtain ⟨v',w',hrun,h2,h3,_,h5⟩:=run_append_own_at (P:=P) w base t ty e i z size bytes ht hi hz hsize hby hzs hsz v n xs hown ad m c news hr.1 hcells h1 h63 hbytes hbase
  exact ⟨v',w',hrun,h2,h3,h5⟩
theorem wp_append_any {o : Oper} {a : Act} {K : Act → World → Prop} {Q : Exit → Act → World → Prop} (s x : Operand) (t : TypeId)
    (ho : o.op = .call { callee := .builtin .append, args := #[s, x], argTypes := #[t, t] })
    (base : Nat) (e : TypeId) (i : TypeInfo) (z : Value) (size bytes : Nat) (ht : P.underlying t = some (.slice e)) (hi : P.info? e = some i) (hz : i.zero = some z)
    (hsize : i.size = size) (hby : i.bytes = bytes) (hzs : z.cells.size = size) (hsz : 0 < size)
    (v : Value) (n : Nat) (xs : List Value) (hs : a.eval s = v) (hown : w.ownsRow base e size v n xs)
    (B : Nat) (A : Option Addr) (m c : Nat) (news : List Value) (hx : a.eval x = .slice A m c) (hr : Reads w B size A m news) (h1 : ∀ u ∈ news, u.oneCell' = true)
    (h63 : n + m ≤ maxLen) (hbytes : (n + m) * bytes ≤ 140737488355328) (hbase : base ≤ w.heap.size)
    (h : ∀ v' w', w'.ownsRow base e size v' (n + m) (xs ++ news) → w.grownBy w' v.ownBlock → (v'.ownBlock = v.ownBlock ∨ v'.ownBlock = some w.heap.size) → K (a.put o.dst v') w') : o.wp P a w K Q := by
  obtain ⟨v', w', hrun, h2, h3, h4⟩ := run_append_any (P := P) w base t o.type e i z size bytes ht hi hz hsize hby hzs hsz v n xs hown B A m c news hr h1 h63 hbytes hbase
  unfold Oper.wp execOp
  simp only [ho, resolve, invoke, builtin, Sem.run_bind, Sem.run_pure, Result.andThen_ok, List.map_toArray, List.map_cons, List.map_nil, hs, hx, hrun]
  exact h v' w' h2 h3 h4
theorem wpList_append_any {ops : Array Oper} {rest : List Oper} {o : Oper} {a : Act} {Q : Exit → Act → World → Prop} (hgd : o.guard = none) (s x : Operand) (t : TypeId)
    (ho : o.op = .call { callee := .builtin .append, args := #[s, x], argTypes := #[t, t] })
    (base : Nat) (e : TypeId) (i : TypeInfo) (z : Value) (size bytes : Nat) (ht : P.underlying t = some (.slice e)) (hi : P.info? e = some i) (hz : i.zero = some z)
    (hsize : i.size = size) (hby : i.bytes = bytes) (hzs : z.cells.size = size) (hsz : 0 < size)
    (v : Value) (n : Nat) (xs : List Value) (hs : a.eval s = v) (hown : w.ownsRow base e size v n xs)
    (B : Nat) (A : Option Addr) (m c : Nat) (news : List Value) (hx : a.eval x = .slice A m c) (hr : Reads w B size A m news) (h1 : ∀ u ∈ news, u.oneCell' = true)
    (h63 : n + m ≤ maxLen) (hbytes : (n + m) * bytes ≤ 140737488355328) (hbase : base ≤ w.heap.size)
    (h : ∀ v' w', w'.ownsRow base e size v' (n + m) (xs ++ news) → w.grownBy w' v.ownBlock → (v'.ownBlock = v.ownBlock ∨ v'.ownBlock = some w.heap.size) → wpList P ops Q rest (a.put o.dst v') w') : wpList P ops Q (o :: rest) a w :=
  wpList_plain hgd fun _ hK => wp_append_any w s x t ho base e i z size bytes ht hi hz hsize hby hzs hsz v n xs hs hown B A m c news hx hr h1 h63 hbytes hbase fun v' w' h2 h3 h4 => hK _ _ (h v' w' h2 h3 h4)
theorem step_append_any {ops : Array Oper} {o : Oper} {a : Act} {K : Act → World → Prop} {Q : Exit → Act → World → Prop} {E : Prop} (hgd : o.guard = none) (s x : Operand) (t : TypeId)
    (ho : o.op = .call { callee := .builtin .append, args := #[s, x], argTypes := #[t, t] })
    (base : Nat) (e : TypeId) (i : TypeInfo) (z : Value) (size bytes : Nat) (ht : P.underlying t = some (.slice e)) (hi : P.info? e = some i) (hz : i.zero = some z)
    (hsize : i.size = size) (hby : i.bytes = bytes) (hzs : z.cells.size = size) (hsz : 0 < size)
    (v : Value) (n : Nat) (xs : List Value) (hs : a.eval s = v) (hown : w.ownsRow base e size v n xs)
    (B : Nat) (A : Option Addr) (m c : Nat) (news : List Value) (hx : a.eval x = .slice A m c) (hr : Reads w B size A m news) (h1 : ∀ u ∈ news, u.oneCell' = true)
    (h63 : n + m ≤ maxLen) (hbytes : (n + m) * bytes ≤ 140737488355328) (hbase : base ≤ w.heap.size)
    (h : ∀ v' w', w'.ownsRow base e size v' (n + m) (xs ++ news) → w.grownBy w' v.ownBlock → (v'.ownBlock = v.ownBlock ∨ v'.ownBlock = some w.heap.size) → K (a.put o.dst v') w') :
    if Region.wanted o (yielded ops a.tmps) = true then Oper.wp P o a w K Q else E := by
  have hw : Region.wanted o (yielded ops a.tmps) = true := by simp [Region.wanted, hgd]
  rw [if_pos hw]
  exact wp_append_any w s x t ho base e i z size bytes ht hi hz hsize hby hzs hsz v n xs hs hown B A m c news hx hr h1 h63 hbytes hbase h
end
theorem ints_one (l:List Int):∀u ∈ ints l,u.oneCell'=true:=by
 intro u hu
 obtain ⟨f,_,rfl⟩:=List.mem_map.1 hu
 rfl
theorem clone_any (l:List Int)(hl:l.length≤1000000000)(A:Option Addr)(c:Nat)(w:World)(hR:RN w A l) :
  Calls Tryz.prog 154 #[.slice A l.length c] w fun e w'=>∃A' c',e=.returned (.slice A' l.length c')∧OwnN w' w.heap.size A' c' l∧Below w.heap.size w w':=by
 have hnil:=fun W a n c=>Lib.run_eql_slice_nil (P:=Tryz.prog) W 22 3 a n c 0 0 Tryz.underlying22
 cases A with
 | none =>
  have hl0:l=[]:=by
   apply List.eq_nil_of_length_eq_zero
   rcases Nat.eq_zero_or_pos l.length with h | h
   ·exact h
   ·obtain ⟨ad,h1,_⟩:=hR.2 h;cases h1
  subst hl0
  go_enter Tryz.func154,Tryz.ntmps154
  go_wp2
  go_ret
  exact ⟨none,0,rfl,World.ownsRow_nil _ _ _ _,Below.refl _ _⟩
 | some a =>
  obtain ⟨i0,hi0,hz0,hz1,hz2⟩:=info_parts info_int
  go_enter Tryz.func154,Tryz.ntmps154
  have h0:(w.alloc (.cells #[] 3)).ownsRow w.heap.size 3 1 (.slice (some ⟨w.heap.size,0,none⟩) 0 0) 0 []:=World.ownsRow_lit w #[] 0 (Nat.le_refl _) (by unfold maxLen;omega) rfl
  have hb0:Below w.heap.size w (w.alloc (.cells #[] 3)):=(Below.refl _ _).alloc (Nat.le_refl _) _
  go_wp2_with (at_builtin;refine wpList_append_any _ rfl _ _ 22 rfl w.heap.size 3 i0 _ 1 8 Tryz.underlying22 hi0 hz0 hz1 hz2 rfl (by omega) _ 0 [] rfl h0 _ (some a) l.length c (ints l) rfl (hR.below hb0) (ints_one l) (by unfold maxLen;omega) (by omega) hb0.size ?_;intro v' w2 own2 hg2 hat2)
  obtain ⟨A',c',rfl⟩:=own_shape own2
  go_wp2
  go_ret
  rw [Nat.zero_add,List.nil_append] at own2
  exact ⟨A',c',by rw [Nat.zero_add];rfl,own2,hb0.grown hg2 hb0.size (fun k hk=>by have e:(some w.heap.size:Option Nat)=some k:=hk;cases e;exact Nat.le_refl _)⟩
end Go.Proofs.YtiapkffihpgdcaaGreatDoor
