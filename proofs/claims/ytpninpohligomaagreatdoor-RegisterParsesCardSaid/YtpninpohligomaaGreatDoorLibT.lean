/-
  The texts of chapters 54 and 56: the shelf's contracts of the library, laid at this program.
-/
import Derived.Test.YtpninpohligomaaGreatDoorRows
import Derived.Test.YtpninpohligomaaGreatDoorBase
import Derived.WalkKit
import Derived.Shelf.Strconv.Itoa4
import Derived.Shelf.Strconv.ParseIntPublic10
import Derived.Shelf.Strings.Prefix
import Derived.Shelf.Strings.SlTrimAscii
import Derived.Shelf.Strings.Split
import Derived.Shelf.Small.Strs
import Derived.Shelf.Strings.BuilderK
set_option linter.unusedSimpArgs false
set_option linter.unusedVariables false
namespace Go.Proofs.YtpninpohligomaaGreatDoor
open Go.Shelf Go.RowKit
set_option maxRecDepth 100000
set_option maxHeartbeats 4000000
def Tryz.laysFmt_ren : Go.Shelf.Ren := ⟨fun | 173 => 52 | 246 => 76 | 283 => 89 | 284 => 90 | 285 => 91 | 286 => 92 | 129 => 113 | 317 => 112 | 318 => 114 | 319 => 115 | 320 => 116 | 337 => 130 | 338 => 131 | n => n, fun | 2 => 2 | 3 => 3 | 9 => 9 | 4 => 4 | 171 => 122 | 0 => 0 | 53 => 103 | 37 => 65 | 5 => 5 | 173 => 125 | 212 => 146 | 51 => 147 | 20 => 20 | 213 => 148 | 46 => 140 | 232 => 169 | 233 => 170 | n => n, fun | 17 => 0 | 18 => 6 | 19 => 7 | n => n⟩
theorem Tryz.laysFmt : LaysM.n173 Tryz.prog Tryz.laysFmt_ren where
  mixed := by kernel_rfl
  f129 := by kernel_rfl
  f173 := by kernel_rfl
  f246 := by kernel_rfl
  f283 := by kernel_rfl
  f284 := by kernel_rfl
  f285 := by kernel_rfl
  f286 := by kernel_rfl
  f317 := by kernel_rfl
  f318 := by kernel_rfl
  f319 := by kernel_rfl
  f320 := by kernel_rfl
  f337 := by kernel_rfl
  f338 := by kernel_rfl
  t0 := Tryz.underlying0
  a0 := Tryz.isAgg0
  z0 := Tryz.sizeOf0
  v0 := Tryz.zeroValue0
  t2 := Tryz.underlying2
  a2 := Tryz.isAgg2
  z2 := Tryz.sizeOf2
  v2 := Tryz.zeroValue2
  t3 := Tryz.underlying3
  a3 := Tryz.isAgg3
  z3 := Tryz.sizeOf3
  v3 := Tryz.zeroValue3
  t4 := Tryz.underlying4
  a4 := Tryz.isAgg4
  z4 := Tryz.sizeOf4
  v4 := Tryz.zeroValue4
  t5 := Tryz.underlying5
  a5 := Tryz.isAgg5
  z5 := Tryz.sizeOf5
  v5 := Tryz.zeroValue5
  t9 := Tryz.underlying9
  a9 := Tryz.isAgg9
  z9 := Tryz.sizeOf9
  v9 := Tryz.zeroValue9
  t20 := Tryz.underlying20
  a20 := Tryz.isAgg20
  z20 := Tryz.sizeOf20
  v20 := Tryz.zeroValue20
  t37 := Tryz.underlying65
  a37 := Tryz.isAgg65
  z37 := Tryz.sizeOf65
  v37 := Tryz.zeroValue65
  t46 := Tryz.underlying140
  a46 := Tryz.isAgg140
  z46 := Tryz.sizeOf140
  v46 := Tryz.zeroValue140
  t51 := Tryz.underlying147
  a51 := Tryz.isAgg147
  z51 := Tryz.sizeOf147
  v51 := Tryz.zeroValue147
  t53 := Tryz.underlying103
  a53 := Tryz.isAgg103
  z53 := Tryz.sizeOf103
  v53 := Tryz.zeroValue103
  t171 := Tryz.underlying122
  a171 := Tryz.isAgg122
  z171 := Tryz.sizeOf122
  v171 := Tryz.zeroValue122
  t173 := Tryz.underlying125
  a173 := Tryz.isAgg125
  z173 := Tryz.sizeOf125
  v173 := Tryz.zeroValue125
  t212 := Tryz.underlying146
  a212 := Tryz.isAgg146
  z212 := Tryz.sizeOf146
  v212 := Tryz.zeroValue146
  t213 := Tryz.underlying148
  a213 := Tryz.isAgg148
  z213 := Tryz.sizeOf148
  t232 := Tryz.underlying169
  a232 := Tryz.isAgg169
  z232 := Tryz.sizeOf169
  v232 := Tryz.zeroValue169
  t233 := Tryz.underlying170
  a233 := Tryz.isAgg170
  z233 := Tryz.sizeOf170
  v233 := Tryz.zeroValue170
  g17 := by kernel_rfl
  g18 := by kernel_rfl
  g19 := by kernel_rfl
  i0 := by kernel_rfl
  i2 := by kernel_rfl
  i3 := by kernel_rfl
  i4 := by kernel_rfl
  i5 := by kernel_rfl
  i9 := by kernel_rfl
  i20 := by kernel_rfl
  i37 := by kernel_rfl
  i46 := by kernel_rfl
  i51 := by kernel_rfl
  i53 := by kernel_rfl
  i171 := by kernel_rfl
  i173 := by kernel_rfl
  i212 := by kernel_rfl
  i232 := by kernel_rfl
  i233 := by kernel_rfl
  m17 := by kernel_rfl
  m18 := by kernel_rfl
  m19 := by kernel_rfl
def Tryz.laysPI_ren : Go.Shelf.Ren := ⟨fun | 174 => 61 | 247 => 84 | 245 => 85 | 287 => 106 | 279 => 107 | 280 => 108 | 281 => 109 | 282 => 110 | 321 => 125 | 322 => 126 | 316 => 127 | 171 => 129 | 205 => 128 | 243 => 135 | 246 => 76 | 283 => 89 | 284 => 90 | 285 => 91 | 286 => 92 | 129 => 113 | 317 => 112 | 318 => 114 | 319 => 115 | 320 => 116 | 337 => 130 | 338 => 131 | n => n, fun | 9 => 9 | 3 => 3 | 2 => 2 | 75 => 69 | 85 => 101 | 4 => 4 | 167 => 137 | 5 => 5 | 53 => 103 | 175 => 138 | 46 => 140 | 168 => 141 | 37 => 65 | 0 => 0 | 210 => 156 | 21 => 21 | 127 => 98 | 145 => 168 | 143 => 166 | 171 => 122 | 173 => 125 | 212 => 146 | 51 => 147 | 20 => 20 | 213 => 148 | 232 => 169 | 233 => 170 | 80 => 73 | n => n, fun | 15 => 2 | 16 => 3 | 17 => 0 | 18 => 6 | 19 => 7 | n => n⟩
theorem Tryz.laysPI : LaysC.n174 Tryz.prog Tryz.laysPI_ren where
  mixed := by kernel_rfl
  f129 := by kernel_rfl
  f171 := by kernel_rfl
  f174 := by kernel_rfl
  f205 := by kernel_rfl
  f243 := by kernel_rfl
  f245 := by kernel_rfl
  f246 := by kernel_rfl
  f247 := by kernel_rfl
  f279 := by kernel_rfl
  f280 := by kernel_rfl
  f281 := by kernel_rfl
  f282 := by kernel_rfl
  f283 := by kernel_rfl
  f284 := by kernel_rfl
  f285 := by kernel_rfl
  f286 := by kernel_rfl
  f287 := by kernel_rfl
  f316 := by kernel_rfl
  f317 := by kernel_rfl
  f318 := by kernel_rfl
  f319 := by kernel_rfl
  f320 := by kernel_rfl
  f321 := by kernel_rfl
  f322 := by kernel_rfl
  f337 := by kernel_rfl
  f338 := by kernel_rfl
  t0 := Tryz.underlying0
  a0 := Tryz.isAgg0
  z0 := Tryz.sizeOf0
  v0 := Tryz.zeroValue0
  t2 := Tryz.underlying2
  a2 := Tryz.isAgg2
  z2 := Tryz.sizeOf2
  v2 := Tryz.zeroValue2
  t3 := Tryz.underlying3
  a3 := Tryz.isAgg3
  z3 := Tryz.sizeOf3
  v3 := Tryz.zeroValue3
  t4 := Tryz.underlying4
  a4 := Tryz.isAgg4
  z4 := Tryz.sizeOf4
  v4 := Tryz.zeroValue4
  t5 := Tryz.underlying5
  a5 := Tryz.isAgg5
  z5 := Tryz.sizeOf5
  v5 := Tryz.zeroValue5
  t9 := Tryz.underlying9
  a9 := Tryz.isAgg9
  z9 := Tryz.sizeOf9
  v9 := Tryz.zeroValue9
  t20 := Tryz.underlying20
  a20 := Tryz.isAgg20
  z20 := Tryz.sizeOf20
  v20 := Tryz.zeroValue20
  t21 := Tryz.underlying21
  a21 := Tryz.isAgg21
  z21 := Tryz.sizeOf21
  v21 := Tryz.zeroValue21
  t37 := Tryz.underlying65
  a37 := Tryz.isAgg65
  z37 := Tryz.sizeOf65
  v37 := Tryz.zeroValue65
  t46 := Tryz.underlying140
  a46 := Tryz.isAgg140
  z46 := Tryz.sizeOf140
  v46 := Tryz.zeroValue140
  t51 := Tryz.underlying147
  a51 := Tryz.isAgg147
  z51 := Tryz.sizeOf147
  v51 := Tryz.zeroValue147
  t53 := Tryz.underlying103
  a53 := Tryz.isAgg103
  z53 := Tryz.sizeOf103
  v53 := Tryz.zeroValue103
  t75 := Tryz.underlying69
  a75 := Tryz.isAgg69
  z75 := Tryz.sizeOf69
  v75 := Tryz.zeroValue69
  t85 := Tryz.underlying101
  a85 := Tryz.isAgg101
  z85 := Tryz.sizeOf101
  v85 := Tryz.zeroValue101
  t127 := Tryz.underlying98
  a127 := Tryz.isAgg98
  z127 := Tryz.sizeOf98
  v127 := Tryz.zeroValue98
  t143 := Tryz.underlying166
  a143 := Tryz.isAgg166
  z143 := Tryz.sizeOf166
  v143 := Tryz.zeroValue166
  t145 := Tryz.underlying168
  a145 := Tryz.isAgg168
  z145 := Tryz.sizeOf168
  v145 := Tryz.zeroValue168
  t167 := Tryz.underlying137
  a167 := Tryz.isAgg137
  z167 := Tryz.sizeOf137
  v167 := Tryz.zeroValue137
  t168 := Tryz.underlying141
  a168 := Tryz.isAgg141
  z168 := Tryz.sizeOf141
  v168 := Tryz.zeroValue141
  t171 := Tryz.underlying122
  a171 := Tryz.isAgg122
  z171 := Tryz.sizeOf122
  v171 := Tryz.zeroValue122
  t173 := Tryz.underlying125
  a173 := Tryz.isAgg125
  z173 := Tryz.sizeOf125
  v173 := Tryz.zeroValue125
  t175 := Tryz.underlying138
  a175 := Tryz.isAgg138
  z175 := Tryz.sizeOf138
  v175 := Tryz.zeroValue138
  t210 := Tryz.underlying156
  a210 := Tryz.isAgg156
  z210 := Tryz.sizeOf156
  v210 := Tryz.zeroValue156
  t212 := Tryz.underlying146
  a212 := Tryz.isAgg146
  z212 := Tryz.sizeOf146
  v212 := Tryz.zeroValue146
  t213 := Tryz.underlying148
  a213 := Tryz.isAgg148
  z213 := Tryz.sizeOf148
  t232 := Tryz.underlying169
  a232 := Tryz.isAgg169
  z232 := Tryz.sizeOf169
  v232 := Tryz.zeroValue169
  t233 := Tryz.underlying170
  a233 := Tryz.isAgg170
  z233 := Tryz.sizeOf170
  v233 := Tryz.zeroValue170
  g15 := by kernel_rfl
  g16 := by kernel_rfl
  g17 := by kernel_rfl
  g18 := by kernel_rfl
  g19 := by kernel_rfl
  t80 := Tryz.underlying73
  a80 := Tryz.isAgg73
  z80 := Tryz.sizeOf73
  v80 := Tryz.zeroValue73
  i0 := by kernel_rfl
  i2 := by kernel_rfl
  i3 := by kernel_rfl
  i4 := by kernel_rfl
  i5 := by kernel_rfl
  i9 := by kernel_rfl
  i20 := by kernel_rfl
  i21 := by kernel_rfl
  i37 := by kernel_rfl
  i46 := by kernel_rfl
  i51 := by kernel_rfl
  i53 := by kernel_rfl
  i75 := by kernel_rfl
  i80 := by kernel_rfl
  i85 := by kernel_rfl
  i127 := by kernel_rfl
  i143 := by kernel_rfl
  i145 := by kernel_rfl
  i167 := by kernel_rfl
  i168 := by kernel_rfl
  i171 := by kernel_rfl
  i173 := by kernel_rfl
  i175 := by kernel_rfl
  i210 := by kernel_rfl
  i212 := by kernel_rfl
  i232 := by kernel_rfl
  i233 := by kernel_rfl
  m15 := by kernel_rfl
  m16 := by kernel_rfl
  m17 := by kernel_rfl
  m18 := by kernel_rfl
  m19 := by kernel_rfl
  c0 := by kernel_rfl
  c2 := by kernel_rfl
  c3 := by kernel_rfl
  c4 := by kernel_rfl
  c5 := by kernel_rfl
  c9 := by kernel_rfl
  c20 := by kernel_rfl
  c21 := by kernel_rfl
  c37 := by kernel_rfl
  c46 := by kernel_rfl
  c51 := by kernel_rfl
  c53 := by kernel_rfl
  c75 := by kernel_rfl
  c80 := by kernel_rfl
  c85 := by kernel_rfl
  c127 := by kernel_rfl
  c143 := by kernel_rfl
  c145 := by kernel_rfl
  c167 := by kernel_rfl
  c168 := by kernel_rfl
  c171 := by kernel_rfl
  c173 := by kernel_rfl
  c175 := by kernel_rfl
  c210 := by kernel_rfl
  c212 := by kernel_rfl
  c213 := by kernel_rfl
  c232 := by kernel_rfl
  c233 := by kernel_rfl
def Tryz.laysTP_ren : Go.Shelf.Ren := ⟨fun | 101 => 82 | 208 => 98 | 206 => 121 | n => n, fun | 9 => 9 | 4 => 4 | 3 => 3 | n => n, fun n => n⟩
theorem Tryz.laysTP : Lays.n101 Tryz.prog Tryz.laysTP_ren where
  mixed := by kernel_rfl
  f101 := by kernel_rfl
  f206 := by kernel_rfl
  f208 := by kernel_rfl
  t3 := Tryz.underlying3
  a3 := Tryz.isAgg3
  z3 := Tryz.sizeOf3
  v3 := Tryz.zeroValue3
  t4 := Tryz.underlying4
  a4 := Tryz.isAgg4
  z4 := Tryz.sizeOf4
  v4 := Tryz.zeroValue4
  t9 := Tryz.underlying9
  a9 := Tryz.isAgg9
  z9 := Tryz.sizeOf9
  v9 := Tryz.zeroValue9
def Tryz.laysTrim_ren : Go.Shelf.Ren := ⟨fun | 160 => 83 | 232 => 100 | 231 => 99 | 227 => 101 | 234 => 103 | 233 => 102 | 236 => 105 | 235 => 104 | 228 => 122 | 271 => 124 | 151 => 123 | 197 => 95 | 120 => 134 | 152 => 133 | 260 => 117 | 137 => 57 | 119 => 136 | 224 => 119 | 225 => 118 | 217 => 77 | 266 => 93 | n => n, fun | 9 => 9 | 4 => 4 | 3 => 3 | 5 => 5 | 117 => 133 | 116 => 132 | 0 => 0 | 124 => 136 | 21 => 21 | 105 => 128 | 46 => 140 | 119 => 159 | 139 => 162 | 138 => 161 | n => n, fun | 3 => 4 | 4 => 5 | n => n⟩
theorem Tryz.laysTrim : Lays.n160 Tryz.prog Tryz.laysTrim_ren where
  mixed := by kernel_rfl
  f119 := by kernel_rfl
  f120 := by kernel_rfl
  f137 := by kernel_rfl
  f151 := by kernel_rfl
  f152 := by kernel_rfl
  f160 := by kernel_rfl
  f197 := by kernel_rfl
  f217 := by kernel_rfl
  f224 := by kernel_rfl
  f225 := by kernel_rfl
  f227 := by kernel_rfl
  f228 := by kernel_rfl
  f231 := by kernel_rfl
  f232 := by kernel_rfl
  f233 := by kernel_rfl
  f234 := by kernel_rfl
  f235 := by kernel_rfl
  f236 := by kernel_rfl
  f260 := by kernel_rfl
  f266 := by kernel_rfl
  f271 := by kernel_rfl
  t0 := Tryz.underlying0
  a0 := Tryz.isAgg0
  z0 := Tryz.sizeOf0
  v0 := Tryz.zeroValue0
  t3 := Tryz.underlying3
  a3 := Tryz.isAgg3
  z3 := Tryz.sizeOf3
  v3 := Tryz.zeroValue3
  t4 := Tryz.underlying4
  a4 := Tryz.isAgg4
  z4 := Tryz.sizeOf4
  v4 := Tryz.zeroValue4
  t5 := Tryz.underlying5
  a5 := Tryz.isAgg5
  z5 := Tryz.sizeOf5
  v5 := Tryz.zeroValue5
  t9 := Tryz.underlying9
  a9 := Tryz.isAgg9
  z9 := Tryz.sizeOf9
  v9 := Tryz.zeroValue9
  t21 := Tryz.underlying21
  a21 := Tryz.isAgg21
  z21 := Tryz.sizeOf21
  v21 := Tryz.zeroValue21
  t46 := Tryz.underlying140
  a46 := Tryz.isAgg140
  z46 := Tryz.sizeOf140
  v46 := Tryz.zeroValue140
  t105 := Tryz.underlying128
  a105 := Tryz.isAgg128
  z105 := Tryz.sizeOf128
  v105 := Tryz.zeroValue128
  t116 := Tryz.underlying132
  a116 := Tryz.isAgg132
  z116 := Tryz.sizeOf132
  t117 := Tryz.underlying133
  a117 := Tryz.isAgg133
  z117 := Tryz.sizeOf133
  v117 := Tryz.zeroValue133
  t119 := Tryz.underlying159
  a119 := Tryz.isAgg159
  z119 := Tryz.sizeOf159
  t124 := Tryz.underlying136
  a124 := Tryz.isAgg136
  z124 := Tryz.sizeOf136
  v124 := Tryz.zeroValue136
  t138 := Tryz.underlying161
  a138 := Tryz.isAgg161
  z138 := Tryz.sizeOf161
  v138 := Tryz.zeroValue161
  t139 := Tryz.underlying162
  a139 := Tryz.isAgg162
  z139 := Tryz.sizeOf162
  v139 := Tryz.zeroValue162
  g3 := by kernel_rfl
  g4 := by kernel_rfl
def Tryz.laysSplit_ren : Go.Shelf.Ren := ⟨fun | 146 => 34 | 221 => 58 | 268 => 78 | 138 => 79 | 143 => 80 | 195 => 94 | 197 => 95 | 218 => 96 | 219 => 97 | 260 => 117 | 217 => 77 | 225 => 118 | 224 => 119 | 267 => 120 | 266 => 93 | 314 => 132 | n => n, fun | 9 => 9 | 31 => 77 | 3 => 3 | 4 => 4 | 0 => 0 | 105 => 128 | 21 => 21 | 5 => 5 | 46 => 140 | 119 => 159 | 139 => 162 | 138 => 161 | 146 => 163 | 51 => 147 | n => n, fun | 1 => 1 | 3 => 4 | 4 => 5 | n => n⟩
theorem Tryz.laysSplit : Lays.n146 Tryz.prog Tryz.laysSplit_ren where
  mixed := by kernel_rfl
  f138 := by kernel_rfl
  f143 := by kernel_rfl
  f146 := by kernel_rfl
  f195 := by kernel_rfl
  f197 := by kernel_rfl
  f217 := by kernel_rfl
  f218 := by kernel_rfl
  f219 := by kernel_rfl
  f221 := by kernel_rfl
  f224 := by kernel_rfl
  f225 := by kernel_rfl
  f260 := by kernel_rfl
  f266 := by kernel_rfl
  f267 := by kernel_rfl
  f268 := by kernel_rfl
  f314 := by kernel_rfl
  t0 := Tryz.underlying0
  a0 := Tryz.isAgg0
  z0 := Tryz.sizeOf0
  v0 := Tryz.zeroValue0
  t3 := Tryz.underlying3
  a3 := Tryz.isAgg3
  z3 := Tryz.sizeOf3
  v3 := Tryz.zeroValue3
  t4 := Tryz.underlying4
  a4 := Tryz.isAgg4
  z4 := Tryz.sizeOf4
  v4 := Tryz.zeroValue4
  t5 := Tryz.underlying5
  a5 := Tryz.isAgg5
  z5 := Tryz.sizeOf5
  v5 := Tryz.zeroValue5
  t9 := Tryz.underlying9
  a9 := Tryz.isAgg9
  z9 := Tryz.sizeOf9
  v9 := Tryz.zeroValue9
  t21 := Tryz.underlying21
  a21 := Tryz.isAgg21
  z21 := Tryz.sizeOf21
  v21 := Tryz.zeroValue21
  t31 := Tryz.underlying77
  a31 := Tryz.isAgg77
  z31 := Tryz.sizeOf77
  v31 := Tryz.zeroValue77
  t46 := Tryz.underlying140
  a46 := Tryz.isAgg140
  z46 := Tryz.sizeOf140
  v46 := Tryz.zeroValue140
  t51 := Tryz.underlying147
  a51 := Tryz.isAgg147
  z51 := Tryz.sizeOf147
  v51 := Tryz.zeroValue147
  t105 := Tryz.underlying128
  a105 := Tryz.isAgg128
  z105 := Tryz.sizeOf128
  v105 := Tryz.zeroValue128
  t119 := Tryz.underlying159
  a119 := Tryz.isAgg159
  z119 := Tryz.sizeOf159
  t138 := Tryz.underlying161
  a138 := Tryz.isAgg161
  z138 := Tryz.sizeOf161
  v138 := Tryz.zeroValue161
  t139 := Tryz.underlying162
  a139 := Tryz.isAgg162
  z139 := Tryz.sizeOf162
  v139 := Tryz.zeroValue162
  t146 := Tryz.underlying163
  a146 := Tryz.isAgg163
  z146 := Tryz.sizeOf163
  v146 := Tryz.zeroValue163
  g1 := by kernel_rfl
  g3 := by kernel_rfl
  g4 := by kernel_rfl
def Tryz.laysIB_ren : Go.Shelf.Ren := ⟨fun | 137 => 57 | 217 => 77 | 266 => 93 | n => n, fun | 9 => 9 | 5 => 5 | 3 => 3 | n => n, fun n => n⟩
theorem Tryz.laysIB : Lays.n137 Tryz.prog Tryz.laysIB_ren where
  mixed := by kernel_rfl
  f137 := by kernel_rfl
  f217 := by kernel_rfl
  f266 := by kernel_rfl
  t3 := Tryz.underlying3
  a3 := Tryz.isAgg3
  z3 := Tryz.sizeOf3
  v3 := Tryz.zeroValue3
  t5 := Tryz.underlying5
  a5 := Tryz.isAgg5
  z5 := Tryz.sizeOf5
  v5 := Tryz.zeroValue5
  t9 := Tryz.underlying9
  a9 := Tryz.isAgg9
  z9 := Tryz.sizeOf9
  v9 := Tryz.zeroValue9
def Tryz.laysTS_ren : Go.Shelf.Ren := ⟨fun | 102 => 35 | 209 => 59 | 207 => 81 | n => n, fun | 9 => 9 | 4 => 4 | 3 => 3 | n => n, fun n => n⟩
theorem Tryz.laysTS : Lays.n102 Tryz.prog Tryz.laysTS_ren where
  mixed := by kernel_rfl
  f102 := by kernel_rfl
  f207 := by kernel_rfl
  f209 := by kernel_rfl
  t3 := Tryz.underlying3
  a3 := Tryz.isAgg3
  z3 := Tryz.sizeOf3
  v3 := Tryz.zeroValue3
  t4 := Tryz.underlying4
  a4 := Tryz.isAgg4
  z4 := Tryz.sizeOf4
  v4 := Tryz.zeroValue4
  t9 := Tryz.underlying9
  a9 := Tryz.isAgg9
  z9 := Tryz.sizeOf9
  v9 := Tryz.zeroValue9
def Tryz.laysBS_ren : Go.Shelf.Ren := ⟨fun | 169 => 30 | n => n, fun | 70 => 64 | 9 => 9 | 0 => 0 | 72 => 67 | 37 => 65 | 127 => 98 | 3 => 3 | 5 => 5 | n => n, fun n => n⟩
theorem Tryz.laysBS : Lays.n169 Tryz.prog Tryz.laysBS_ren where
  mixed := by kernel_rfl
  f169 := by kernel_rfl
  t0 := Tryz.underlying0
  a0 := Tryz.isAgg0
  z0 := Tryz.sizeOf0
  v0 := Tryz.zeroValue0
  t3 := Tryz.underlying3
  a3 := Tryz.isAgg3
  z3 := Tryz.sizeOf3
  v3 := Tryz.zeroValue3
  t9 := Tryz.underlying9
  a9 := Tryz.isAgg9
  z9 := Tryz.sizeOf9
  v9 := Tryz.zeroValue9
  t37 := Tryz.underlying65
  a37 := Tryz.isAgg65
  z37 := Tryz.sizeOf65
  v37 := Tryz.zeroValue65
  t70 := Tryz.underlying64
  a70 := Tryz.isAgg64
  z70 := Tryz.sizeOf64
  v70 := Tryz.zeroValue64
  t72 := Tryz.underlying67
  a72 := Tryz.isAgg67
  z72 := Tryz.sizeOf67
  v72 := Tryz.zeroValue67
  t127 := Tryz.underlying98
  a127 := Tryz.isAgg98
  z127 := Tryz.sizeOf98
  v127 := Tryz.zeroValue98

def Tryz.laysWS_ren : Go.Shelf.Ren := ⟨fun | 166 => 28 | 240 => 51 | 276 => 75 | n => n, fun | 70 => 64 | 9 => 9 | 0 => 0 | 72 => 67 | 37 => 65 | 164 => 113 | 3 => 3 | 4 => 4 | 5 => 5 | 20 => 20 | 75 => 69 | 80 => 73 | n => n, fun n => n⟩
theorem Tryz.laysWS : Lays.n166 Tryz.prog Tryz.laysWS_ren where
  mixed := by kernel_rfl
  f166 := by kernel_rfl
  f240 := by kernel_rfl
  f276 := by kernel_rfl
  t0 := Tryz.underlying0
  a0 := Tryz.isAgg0
  z0 := Tryz.sizeOf0
  v0 := Tryz.zeroValue0
  t3 := Tryz.underlying3
  a3 := Tryz.isAgg3
  z3 := Tryz.sizeOf3
  v3 := Tryz.zeroValue3
  t4 := Tryz.underlying4
  a4 := Tryz.isAgg4
  z4 := Tryz.sizeOf4
  v4 := Tryz.zeroValue4
  t9 := Tryz.underlying9
  a9 := Tryz.isAgg9
  z9 := Tryz.sizeOf9
  v9 := Tryz.zeroValue9
  t20 := Tryz.underlying20
  a20 := Tryz.isAgg20
  z20 := Tryz.sizeOf20
  v20 := Tryz.zeroValue20
  t37 := Tryz.underlying65
  a37 := Tryz.isAgg65
  z37 := Tryz.sizeOf65
  v37 := Tryz.zeroValue65
  t70 := Tryz.underlying64
  a70 := Tryz.isAgg64
  z70 := Tryz.sizeOf64
  v70 := Tryz.zeroValue64
  t72 := Tryz.underlying67
  a72 := Tryz.isAgg67
  z72 := Tryz.sizeOf67
  v72 := Tryz.zeroValue67
  t75 := Tryz.underlying69
  a75 := Tryz.isAgg69
  z75 := Tryz.sizeOf69
  v75 := Tryz.zeroValue69
  t164 := Tryz.underlying113
  a164 := Tryz.isAgg113
  z164 := Tryz.sizeOf113
  v164 := Tryz.zeroValue113

theorem Tryz.extraW : Builder.Extra Tryz.prog Tryz.laysWS_ren where
  sizeBuilder := by kernel_rfl
  liesBuilder := by kernel_rfl
  t5 := Tryz.underlying5
  a5 := Tryz.isAgg5
  z5 := Tryz.sizeOf5
  v5 := Tryz.zeroValue5
  infoByte := by kernel_rfl
  cellsByte := by kernel_rfl
  sizeByte := by kernel_rfl
  neB5 := by decide
theorem Tryz.extraB : Builder.Extra Tryz.prog Tryz.laysBS_ren where
  sizeBuilder := by kernel_rfl
  liesBuilder := by kernel_rfl
  t5 := Tryz.underlying5
  a5 := Tryz.isAgg5
  z5 := Tryz.sizeOf5
  v5 := Tryz.zeroValue5
  infoByte := by kernel_rfl
  cellsByte := by kernel_rfl
  sizeByte := by kernel_rfl
  neB5 := by decide
theorem Tryz.parse_ok (s : ByteArray) (hmax : s.size ≤ 9223372036854775806) (v : Int) (h : Lib.parseIntB 64 s.data.toList = .ok v) (w : World) :
    Calls Tryz.prog 61 #[.string s, .int .i64 10, .int .i64 64] w fun e w' => e = .returned (.tuple #[.int .i64 v, .nilIface]) ∧ Below w.heap.size w w' :=
  (Any.strconv_ParseInt_10_at64_ok Tryz.laysPI s hmax v h w).mono fun _ _ ⟨h1, h2⟩ => ⟨h1, by
    rcases h2 with rfl | ⟨t, rfl⟩
    · exact Below.refl _ _
    · exact Lib.bytesWorld_below _ _ _⟩

theorem Tryz.parse_range (s : ByteArray) (hlim : s.size ≤ 281474976710656) (h : Lib.parseIntB 64 s.data.toList = .range) (ev : Value) (w : World) (hv : w.cell? ⟨3, 0, none⟩ = some ev) (hev : ev = .nilIface ∨ ∃ te pe, ev = .iface te pe) :
    Calls Tryz.prog 61 #[.string s, .int .i64 10, .int .i64 64] w fun e w' => ∃ x te pe, e = .returned (.tuple #[.int .i64 x, .iface te pe]) ∧ Below w.heap.size w w' :=
  (Any.strconv_ParseInt_10_at64_range Tryz.laysPI s hlim h ev w hv hev).mono fun _ _ ⟨_, h1, _, _, h2⟩ => ⟨_, _, _, h1, h2⟩

theorem Tryz.trimp_p (s p : ByteArray) (w : World) :
    Calls Tryz.prog 82 #[.string s, .string p] w fun e w' => e = .returned (.string ⟨(Lib.trimPrefix s.data.toList p.data.toList).toArray⟩) ∧ w = w' :=
  (Any.strings_TrimPrefix Tryz.laysTP s p w).mono fun _ _ ⟨h1, h2⟩ => ⟨h1, h2.symm⟩

theorem Tryz.trim_p (s cutset : ByteArray) (w : World) (hs : s.size ≤ 9223372036854775807) (hcs : cutset.size < 4294967281)
    (hascii : cutset.data.toList.all (fun b => decide (b.toNat < 128)) = true) :
    Calls Tryz.prog 83 #[.string s, .string cutset] w fun e w' => e = .returned (.string ⟨(Lib.trimS s.data.toList cutset.data.toList).toArray⟩) ∧ Below w.heap.size w w' :=
  Any.strings_Trim_laid Tryz.laysTrim (by kernel_rfl) s cutset w hs hcs (ascii_of_all hascii)

theorem Tryz.split_p (s sep : ByteArray) (m : Int) (w : World) (hs : s.size < 4294967281) (hm : w.cell? ⟨1, 0, none⟩ = some (.int .i64 m)) (h1 : 1 ≤ sep.size) :
    Calls Tryz.prog 34 #[.string s, .string sep] w fun e w' =>
      e = .returned (.slice (some ⟨w.heap.size, 0, none⟩) (Lib.countB s sep + 1) (Lib.countB s sep + 1)) ∧ w' = w.alloc (.cells ((Lib.splitB sep 0 (Lib.countB s sep) s).map Value.string).toArray 9) :=
  Any.strings_Split Tryz.laysSplit (by kernel_rfl) s sep m w hs hm h1

theorem Tryz.fmt_p (n : Int) (h0 : -9223372036854775808 ≤ n) (h1 : n ≤ 9223372036854775807) (w : World) (htab : Lib.TabIs Tryz.prog w "internal/strconv.uint64pow10" .u64 Lib.pow10Tab) :
    Calls Tryz.prog 52 #[.int .i64 n, .int .i64 10] w fun e w' => e = .returned (.string ⟨(Lib.itoa n).toArray⟩) ∧ Below w.heap.size w w' :=
  (Any.strconv_FormatInt_10 Tryz.laysFmt n h0 h1 w htab).mono fun _ _ ⟨h1, k, os, h2⟩ => ⟨h1, by
    subst h2
    exact ⟨rfl, rfl, rfl, by show w.heap.size ≤ (w.heap ++ os).size; rw [Array.size_append]; omega, fun j hj => by show (w.heap ++ os)[j]? = w.heap[j]?; exact Array.getElem?_append_left hj⟩⟩
theorem Tryz.ib_p (s : ByteArray) (c : Int) (w : World) :
    Calls Tryz.prog 57 #[.string s, .int .u8 c] w fun e w' => e = .returned (.int .i64 (Lib.indexByte s.data.toList c.toNat.toUInt8)) ∧ w = w' :=
  (Any.strings_IndexByte Tryz.laysIB s c w).mono fun _ _ ⟨h1, h2⟩ => ⟨h1, h2.symm⟩
theorem Tryz.ts_p (s p : ByteArray) (w : World) (hs : s.size ≤ 9223372036854775807) :
    Calls Tryz.prog 35 #[.string s, .string p] w fun e w' => e = .returned (.string ⟨(Lib.trimSuffix s.data.toList p.data.toList).toArray⟩) ∧ w = w' :=
  (Any.strings_TrimSuffix Tryz.laysTS s p w hs).mono fun _ _ ⟨h1, h2⟩ => ⟨h1, h2.symm⟩
/-- The builder at block b holds the bytes l. -/
def Bld (B b : Nat) (l : List UInt8) (w : World) : Prop := Lib.IsBuilderF 67 5 B b (Lib.byteCells l) w
theorem Bld.new (w : World) : Bld w.heap.size w.heap.size [] (w.alloc (.cells #[.pointer none, .slice none 0 0] 67)) := Lib.IsBuilderF.of (Lib.fresh_isBuilder _ _ _)
theorem ownF_below {w w' : World} {base B : Nat} {e : TypeId} {size : Nat} {v : Value} {n : Nat} {xs : List Value} (h : w.ownsRowF base e size v n xs) (hb : Below B w w') (hB : w.heap.size ≤ B) : w'.ownsRowF base e size v n xs := by
  refine ⟨h.1, ?_⟩
  rcases h.2 with h2 | ⟨g, cap, cur, fz, hv, hg, hh, r⟩
  · exact .inl h2
  · exact .inr ⟨g, cap, cur, fz, hv, hg, by rw [hb.block g (by have := (Array.getElem?_eq_some_iff.1 hh).1; omega)]; exact hh, r⟩
theorem Bld.to {B b : Nat} {l : List UInt8} {w w' : World} (h : Bld B b l w) (hb : Below w.heap.size w w') : Bld B b l w' := by
  rcases h with ⟨h1, v, h2, h3, h4⟩ | ⟨h1, v, h2, h3, h4⟩
  · exact .inl ⟨h1, v, (hb.block b (Array.getElem?_eq_some_iff.1 h2).1).trans h2, ownF_below h3 hb (Nat.le_refl _), h4⟩
  · exact .inr ⟨h1, v, (hb.block b (Array.getElem?_eq_some_iff.1 h2).1).trans h2, ownF_below h3 hb (Nat.le_refl _), h4⟩
theorem Bld.lt {B b : Nat} {l : List UInt8} {w : World} (h : Bld B b l w) : B ≤ b ∧ b < w.heap.size := by
  rcases h with ⟨h1, v, h2, h3, h4⟩ | ⟨h1, v, h2, h3, h4⟩
  · exact ⟨h1, (Array.getElem?_eq_some_iff.1 h2).1⟩
  · exact ⟨h1, (Array.getElem?_eq_some_iff.1 h2).1⟩
theorem Tryz.ws_p (B b : Nat) (l : List UInt8) (s : ByteArray) (w : World) (h : Bld B b l w) (hlen : l.length + s.size ≤ 140737488355328) (hBw : B ≤ w.heap.size) :
    Calls Tryz.prog 28 #[.pointer (some ⟨b, 0, none⟩), .string s] w fun e w' => e = .returned (.tuple #[.int .i64 s.size, .nilIface]) ∧ Bld B b (l ++ s.data.toList) w' ∧ Below B w w' ∧ Lib.OthersKept 5 (some b) w w' :=
  (Any.Builder_WriteString_k Tryz.laysWS Tryz.extraW B b (Lib.byteCells l) s w h (by simpa [Lib.byteCells] using hlen) hBw).mono fun _ _ ⟨h1, h2, h3⟩ => ⟨h1, .inr (by rw [Lib.byteCells_append]; exact h2), h3⟩
theorem Tryz.bs_p (B b : Nat) (l : List UInt8) (w : World) (h : Bld B b l w) (hBw : B ≤ w.heap.size) :
    Calls Tryz.prog 30 #[.pointer (some ⟨b, 0, none⟩)] w fun e w' => e = .returned (.string ⟨l.toArray⟩) ∧ Below B w w' :=
  (Any.Builder_String_any_k Tryz.laysBS Tryz.extraB B b l w h hBw).mono fun _ _ ⟨h1, h2⟩ => ⟨h1, h2.2.1⟩
end Go.Proofs.YtpninpohligomaaGreatDoor
