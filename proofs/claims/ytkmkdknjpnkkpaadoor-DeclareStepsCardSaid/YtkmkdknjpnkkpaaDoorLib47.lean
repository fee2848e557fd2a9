/-
  Chapter 47: what Go's library does in the example: the shelf's contracts, laid at this program.
-/
import Derived.Test.YtkmkdknjpnkkpaaDoorRows
import Derived.WalkKit
import Derived.Shelf.Strconv.Itoa4
import Derived.Shelf.Strconv.ParseIntPublic10
import Derived.Shelf.Strings.Cut
import Derived.Shelf.Strings.Prefix
import Derived.Shelf.Strings.SlTrimAscii
import Derived.Shelf.Strings.Split
import Derived.Shelf.Small.Wraps
import Derived.Shelf.Strings.OnBuilder
namespace Go.Proofs
open Go.Shelf Go.RowKit

set_option maxRecDepth 100000
set_option maxHeartbeats 4000000

def Tryd.laysFmt_ren : Go.Shelf.Ren := ⟨fun | 173 => 39 | 246 => 64 | 283 => 80 | 284 => 81 | 285 => 82 | 286 => 83 | 129 => 90 | 317 => 89 | 318 => 91 | 319 => 92 | 320 => 93 | 337 => 96 | 338 => 97 | n => n, fun | 2 => 2 | 3 => 3 | 9 => 9 | 4 => 4 | 171 => 112 | 0 => 0 | 53 => 92 | 37 => 71 | 5 => 5 | 173 => 115 | 212 => 129 | 51 => 100 | 20 => 20 | 213 => 130 | 46 => 83 | 232 => 134 | 233 => 135 | n => n, fun | 17 => 5 | 18 => 6 | 19 => 7 | n => n⟩
theorem Tryd.laysFmt : Lays.n173 Tryd.prog Tryd.laysFmt_ren where
  mixed := by kernel_rfl
  f129 := by kernel_rfl
  f173 := by kernel_rfl
  f246 := by kernel_rfl
  f283 := by kernel_rfl
  f284 := by kernel_rfl
  f285 := by kernel_rfl
  f286 := by kernel_rfl
  f317 := by kernel_rfl
  f318 := by kernel_rfl
  f319 := by kernel_rfl
  f320 := by kernel_rfl
  f337 := by kernel_rfl
  f338 := by kernel_rfl
  t0 := Tryd.underlying0
  a0 := Tryd.isAgg0
  z0 := Tryd.sizeOf0
  v0 := Tryd.zeroValue0
  t2 := Tryd.underlying2
  a2 := Tryd.isAgg2
  z2 := Tryd.sizeOf2
  v2 := Tryd.zeroValue2
  t3 := Tryd.underlying3
  a3 := Tryd.isAgg3
  z3 := Tryd.sizeOf3
  v3 := Tryd.zeroValue3
  t4 := Tryd.underlying4
  a4 := Tryd.isAgg4
  z4 := Tryd.sizeOf4
  v4 := Tryd.zeroValue4
  t5 := Tryd.underlying5
  a5 := Tryd.isAgg5
  z5 := Tryd.sizeOf5
  v5 := Tryd.zeroValue5
  t9 := Tryd.underlying9
  a9 := Tryd.isAgg9
  z9 := Tryd.sizeOf9
  v9 := Tryd.zeroValue9
  t20 := Tryd.underlying20
  a20 := Tryd.isAgg20
  z20 := Tryd.sizeOf20
  v20 := Tryd.zeroValue20
  t37 := Tryd.underlying71
  a37 := Tryd.isAgg71
  z37 := Tryd.sizeOf71
  v37 := Tryd.zeroValue71
  t46 := Tryd.underlying83
  a46 := Tryd.isAgg83
  z46 := Tryd.sizeOf83
  v46 := Tryd.zeroValue83
  t51 := Tryd.underlying100
  a51 := Tryd.isAgg100
  z51 := Tryd.sizeOf100
  v51 := Tryd.zeroValue100
  t53 := Tryd.underlying92
  a53 := Tryd.isAgg92
  z53 := Tryd.sizeOf92
  v53 := Tryd.zeroValue92
  t171 := Tryd.underlying112
  a171 := Tryd.isAgg112
  z171 := Tryd.sizeOf112
  v171 := Tryd.zeroValue112
  t173 := Tryd.underlying115
  a173 := Tryd.isAgg115
  z173 := Tryd.sizeOf115
  v173 := Tryd.zeroValue115
  t212 := Tryd.underlying129
  a212 := Tryd.isAgg129
  z212 := Tryd.sizeOf129
  v212 := Tryd.zeroValue129
  t213 := Tryd.underlying130
  a213 := Tryd.isAgg130
  z213 := Tryd.sizeOf130
  t232 := Tryd.underlying134
  a232 := Tryd.isAgg134
  z232 := Tryd.sizeOf134
  v232 := Tryd.zeroValue134
  t233 := Tryd.underlying135
  a233 := Tryd.isAgg135
  z233 := Tryd.sizeOf135
  v233 := Tryd.zeroValue135
  g17 := by kernel_rfl
  g18 := by kernel_rfl
  g19 := by kernel_rfl
def Tryd.laysPI_ren : Go.Shelf.Ren := ⟨fun | 174 => 25 | 247 => 36 | 245 => 37 | 287 => 58 | 279 => 59 | 280 => 60 | 281 => 61 | 282 => 62 | 321 => 74 | 322 => 75 | 316 => 76 | 171 => 78 | 205 => 77 | 243 => 88 | 246 => 64 | 283 => 80 | 284 => 81 | 285 => 82 | 286 => 83 | 129 => 90 | 317 => 89 | 318 => 91 | 319 => 92 | 320 => 93 | 337 => 96 | 338 => 97 | n => n, fun | 9 => 9 | 3 => 3 | 2 => 2 | 75 => 57 | 85 => 58 | 4 => 4 | 167 => 91 | 5 => 5 | 53 => 92 | 175 => 93 | 46 => 83 | 168 => 95 | 37 => 71 | 0 => 0 | 210 => 108 | 21 => 21 | 127 => 99 | 145 => 127 | 143 => 125 | 171 => 112 | 173 => 115 | 212 => 129 | 51 => 100 | 20 => 20 | 213 => 130 | 232 => 134 | 233 => 135 | 80 => 77 | n => n, fun | 15 => 1 | 16 => 2 | 17 => 5 | 18 => 6 | 19 => 7 | n => n⟩
theorem Tryd.laysPI : LaysC.n174 Tryd.prog Tryd.laysPI_ren where
  mixed := by kernel_rfl
  f129 := by kernel_rfl
  f171 := by kernel_rfl
  f174 := by kernel_rfl
  f205 := by kernel_rfl
  f243 := by kernel_rfl
  f245 := by kernel_rfl
  f246 := by kernel_rfl
  f247 := by kernel_rfl
  f279 := by kernel_rfl
  f280 := by kernel_rfl
  f281 := by kernel_rfl
  f282 := by kernel_rfl
  f283 := by kernel_rfl
  f284 := by kernel_rfl
  f285 := by kernel_rfl
  f286 := by kernel_rfl
  f287 := by kernel_rfl
  f316 := by kernel_rfl
  f317 := by kernel_rfl
  f318 := by kernel_rfl
  f319 := by kernel_rfl
  f320 := by kernel_rfl
  f321 := by kernel_rfl
  f322 := by kernel_rfl
  f337 := by kernel_rfl
  f338 := by kernel_rfl
  t0 := Tryd.underlying0
  a0 := Tryd.isAgg0
  z0 := Tryd.sizeOf0
  v0 := Tryd.zeroValue0
  t2 := Tryd.underlying2
  a2 := Tryd.isAgg2
  z2 := Tryd.sizeOf2
  v2 := Tryd.zeroValue2
  t3 := Tryd.underlying3
  a3 := Tryd.isAgg3
  z3 := Tryd.sizeOf3
  v3 := Tryd.zeroValue3
  t4 := Tryd.underlying4
  a4 := Tryd.isAgg4
  z4 := Tryd.sizeOf4
  v4 := Tryd.zeroValue4
  t5 := Tryd.underlying5
  a5 := Tryd.isAgg5
  z5 := Tryd.sizeOf5
  v5 := Tryd.zeroValue5
  t9 := Tryd.underlying9
  a9 := Tryd.isAgg9
  z9 := Tryd.sizeOf9
  v9 := Tryd.zeroValue9
  t20 := Tryd.underlying20
  a20 := Tryd.isAgg20
  z20 := Tryd.sizeOf20
  v20 := Tryd.zeroValue20
  t21 := Tryd.underlying21
  a21 := Tryd.isAgg21
  z21 := Tryd.sizeOf21
  v21 := Tryd.zeroValue21
  t37 := Tryd.underlying71
  a37 := Tryd.isAgg71
  z37 := Tryd.sizeOf71
  v37 := Tryd.zeroValue71
  t46 := Tryd.underlying83
  a46 := Tryd.isAgg83
  z46 := Tryd.sizeOf83
  v46 := Tryd.zeroValue83
  t51 := Tryd.underlying100
  a51 := Tryd.isAgg100
  z51 := Tryd.sizeOf100
  v51 := Tryd.zeroValue100
  t53 := Tryd.underlying92
  a53 := Tryd.isAgg92
  z53 := Tryd.sizeOf92
  v53 := Tryd.zeroValue92
  t75 := Tryd.underlying57
  a75 := Tryd.isAgg57
  z75 := Tryd.sizeOf57
  v75 := Tryd.zeroValue57
  t85 := Tryd.underlying58
  a85 := Tryd.isAgg58
  z85 := Tryd.sizeOf58
  v85 := Tryd.zeroValue58
  t127 := Tryd.underlying99
  a127 := Tryd.isAgg99
  z127 := Tryd.sizeOf99
  v127 := Tryd.zeroValue99
  t143 := Tryd.underlying125
  a143 := Tryd.isAgg125
  z143 := Tryd.sizeOf125
  v143 := Tryd.zeroValue125
  t145 := Tryd.underlying127
  a145 := Tryd.isAgg127
  z145 := Tryd.sizeOf127
  v145 := Tryd.zeroValue127
  t167 := Tryd.underlying91
  a167 := Tryd.isAgg91
  z167 := Tryd.sizeOf91
  v167 := Tryd.zeroValue91
  t168 := Tryd.underlying95
  a168 := Tryd.isAgg95
  z168 := Tryd.sizeOf95
  v168 := Tryd.zeroValue95
  t171 := Tryd.underlying112
  a171 := Tryd.isAgg112
  z171 := Tryd.sizeOf112
  v171 := Tryd.zeroValue112
  t173 := Tryd.underlying115
  a173 := Tryd.isAgg115
  z173 := Tryd.sizeOf115
  v173 := Tryd.zeroValue115
  t175 := Tryd.underlying93
  a175 := Tryd.isAgg93
  z175 := Tryd.sizeOf93
  v175 := Tryd.zeroValue93
  t210 := Tryd.underlying108
  a210 := Tryd.isAgg108
  z210 := Tryd.sizeOf108
  v210 := Tryd.zeroValue108
  t212 := Tryd.underlying129
  a212 := Tryd.isAgg129
  z212 := Tryd.sizeOf129
  v212 := Tryd.zeroValue129
  t213 := Tryd.underlying130
  a213 := Tryd.isAgg130
  z213 := Tryd.sizeOf130
  t232 := Tryd.underlying134
  a232 := Tryd.isAgg134
  z232 := Tryd.sizeOf134
  v232 := Tryd.zeroValue134
  t233 := Tryd.underlying135
  a233 := Tryd.isAgg135
  z233 := Tryd.sizeOf135
  v233 := Tryd.zeroValue135
  g15 := by kernel_rfl
  g16 := by kernel_rfl
  g17 := by kernel_rfl
  g18 := by kernel_rfl
  g19 := by kernel_rfl
  t80 := Tryd.underlying77
  a80 := Tryd.isAgg77
  z80 := Tryd.sizeOf77
  v80 := Tryd.zeroValue77
  i0 := by kernel_rfl
  i2 := by kernel_rfl
  i3 := by kernel_rfl
  i4 := by kernel_rfl
  i5 := by kernel_rfl
  i9 := by kernel_rfl
  i20 := by kernel_rfl
  i21 := by kernel_rfl
  i37 := by kernel_rfl
  i46 := by kernel_rfl
  i51 := by kernel_rfl
  i53 := by kernel_rfl
  i75 := by kernel_rfl
  i80 := by kernel_rfl
  i85 := by kernel_rfl
  i127 := by kernel_rfl
  i143 := by kernel_rfl
  i145 := by kernel_rfl
  i167 := by kernel_rfl
  i168 := by kernel_rfl
  i171 := by kernel_rfl
  i173 := by kernel_rfl
  i175 := by kernel_rfl
  i210 := by kernel_rfl
  i212 := by kernel_rfl
  i232 := by kernel_rfl
  i233 := by kernel_rfl
  m15 := by kernel_rfl
  m16 := by kernel_rfl
  m17 := by kernel_rfl
  m18 := by kernel_rfl
  m19 := by kernel_rfl
  c0 := by kernel_rfl
  c2 := by kernel_rfl
  c3 := by kernel_rfl
  c4 := by kernel_rfl
  c5 := by kernel_rfl
  c9 := by kernel_rfl
  c20 := by kernel_rfl
  c21 := by kernel_rfl
  c37 := by kernel_rfl
  c46 := by kernel_rfl
  c51 := by kernel_rfl
  c53 := by kernel_rfl
  c75 := by kernel_rfl
  c80 := by kernel_rfl
  c85 := by kernel_rfl
  c127 := by kernel_rfl
  c143 := by kernel_rfl
  c145 := by kernel_rfl
  c167 := by kernel_rfl
  c168 := by kernel_rfl
  c171 := by kernel_rfl
  c173 := by kernel_rfl
  c175 := by kernel_rfl
  c210 := by kernel_rfl
  c212 := by kernel_rfl
  c213 := by kernel_rfl
  c232 := by kernel_rfl
  c233 := by kernel_rfl
def Tryd.laysTP_ren : Go.Shelf.Ren := ⟨fun | 101 => 34 | 208 => 50 | 206 => 70 | n => n, fun | 9 => 9 | 4 => 4 | 3 => 3 | n => n, fun n => n⟩
theorem Tryd.laysTP : Lays.n101 Tryd.prog Tryd.laysTP_ren where
  mixed := by kernel_rfl
  f101 := by kernel_rfl
  f206 := by kernel_rfl
  f208 := by kernel_rfl
  t3 := Tryd.underlying3
  a3 := Tryd.isAgg3
  z3 := Tryd.sizeOf3
  v3 := Tryd.zeroValue3
  t4 := Tryd.underlying4
  a4 := Tryd.isAgg4
  z4 := Tryd.sizeOf4
  v4 := Tryd.zeroValue4
  t9 := Tryd.underlying9
  a9 := Tryd.isAgg9
  z9 := Tryd.sizeOf9
  v9 := Tryd.zeroValue9
def Tryd.laysTrim_ren : Go.Shelf.Ren := ⟨fun | 160 => 35 | 232 => 52 | 231 => 51 | 227 => 53 | 234 => 55 | 233 => 54 | 236 => 57 | 235 => 56 | 228 => 71 | 271 => 73 | 151 => 72 | 197 => 44 | 120 => 87 | 152 => 86 | 260 => 67 | 137 => 94 | 119 => 95 | 224 => 48 | 225 => 47 | 217 => 46 | 266 => 68 | n => n, fun | 9 => 9 | 4 => 4 | 3 => 3 | 5 => 5 | 117 => 87 | 116 => 86 | 0 => 0 | 124 => 90 | 21 => 21 | 105 => 79 | 46 => 83 | 119 => 120 | 139 => 123 | 138 => 122 | n => n, fun | 3 => 3 | 4 => 4 | n => n⟩
theorem Tryd.laysTrim : Lays.n160 Tryd.prog Tryd.laysTrim_ren where
  mixed := by kernel_rfl
  f119 := by kernel_rfl
  f120 := by kernel_rfl
  f137 := by kernel_rfl
  f151 := by kernel_rfl
  f152 := by kernel_rfl
  f160 := by kernel_rfl
  f197 := by kernel_rfl
  f217 := by kernel_rfl
  f224 := by kernel_rfl
  f225 := by kernel_rfl
  f227 := by kernel_rfl
  f228 := by kernel_rfl
  f231 := by kernel_rfl
  f232 := by kernel_rfl
  f233 := by kernel_rfl
  f234 := by kernel_rfl
  f235 := by kernel_rfl
  f236 := by kernel_rfl
  f260 := by kernel_rfl
  f266 := by kernel_rfl
  f271 := by kernel_rfl
  t0 := Tryd.underlying0
  a0 := Tryd.isAgg0
  z0 := Tryd.sizeOf0
  v0 := Tryd.zeroValue0
  t3 := Tryd.underlying3
  a3 := Tryd.isAgg3
  z3 := Tryd.sizeOf3
  v3 := Tryd.zeroValue3
  t4 := Tryd.underlying4
  a4 := Tryd.isAgg4
  z4 := Tryd.sizeOf4
  v4 := Tryd.zeroValue4
  t5 := Tryd.underlying5
  a5 := Tryd.isAgg5
  z5 := Tryd.sizeOf5
  v5 := Tryd.zeroValue5
  t9 := Tryd.underlying9
  a9 := Tryd.isAgg9
  z9 := Tryd.sizeOf9
  v9 := Tryd.zeroValue9
  t21 := Tryd.underlying21
  a21 := Tryd.isAgg21
  z21 := Tryd.sizeOf21
  v21 := Tryd.zeroValue21
  t46 := Tryd.underlying83
  a46 := Tryd.isAgg83
  z46 := Tryd.sizeOf83
  v46 := Tryd.zeroValue83
  t105 := Tryd.underlying79
  a105 := Tryd.isAgg79
  z105 := Tryd.sizeOf79
  v105 := Tryd.zeroValue79
  t116 := Tryd.underlying86
  a116 := Tryd.isAgg86
  z116 := Tryd.sizeOf86
  t117 := Tryd.underlying87
  a117 := Tryd.isAgg87
  z117 := Tryd.sizeOf87
  v117 := Tryd.zeroValue87
  t119 := Tryd.underlying120
  a119 := Tryd.isAgg120
  z119 := Tryd.sizeOf120
  t124 := Tryd.underlying90
  a124 := Tryd.isAgg90
  z124 := Tryd.sizeOf90
  v124 := Tryd.zeroValue90
  t138 := Tryd.underlying122
  a138 := Tryd.isAgg122
  z138 := Tryd.sizeOf122
  v138 := Tryd.zeroValue122
  t139 := Tryd.underlying123
  a139 := Tryd.isAgg123
  z139 := Tryd.sizeOf123
  v139 := Tryd.zeroValue123
  g3 := by kernel_rfl
  g4 := by kernel_rfl
def Tryd.laysSplit_ren : Go.Shelf.Ren := ⟨fun | 146 => 14 | 221 => 21 | 268 => 29 | 138 => 30 | 143 => 31 | 195 => 43 | 197 => 44 | 218 => 45 | 219 => 32 | 260 => 67 | 217 => 46 | 225 => 47 | 224 => 48 | 267 => 49 | 266 => 68 | 314 => 69 | n => n, fun | 9 => 9 | 31 => 43 | 3 => 3 | 4 => 4 | 0 => 0 | 105 => 79 | 21 => 21 | 5 => 5 | 46 => 83 | 119 => 120 | 139 => 123 | 138 => 122 | 146 => 101 | 51 => 100 | n => n, fun | 1 => 0 | 3 => 3 | 4 => 4 | n => n⟩
theorem Tryd.laysSplit : Lays.n146 Tryd.prog Tryd.laysSplit_ren where
  mixed := by kernel_rfl
  f138 := by kernel_rfl
  f143 := by kernel_rfl
  f146 := by kernel_rfl
  f195 := by kernel_rfl
  f197 := by kernel_rfl
  f217 := by kernel_rfl
  f218 := by kernel_rfl
  f219 := by kernel_rfl
  f221 := by kernel_rfl
  f224 := by kernel_rfl
  f225 := by kernel_rfl
  f260 := by kernel_rfl
  f266 := by kernel_rfl
  f267 := by kernel_rfl
  f268 := by kernel_rfl
  f314 := by kernel_rfl
  t0 := Tryd.underlying0
  a0 := Tryd.isAgg0
  z0 := Tryd.sizeOf0
  v0 := Tryd.zeroValue0
  t3 := Tryd.underlying3
  a3 := Tryd.isAgg3
  z3 := Tryd.sizeOf3
  v3 := Tryd.zeroValue3
  t4 := Tryd.underlying4
  a4 := Tryd.isAgg4
  z4 := Tryd.sizeOf4
  v4 := Tryd.zeroValue4
  t5 := Tryd.underlying5
  a5 := Tryd.isAgg5
  z5 := Tryd.sizeOf5
  v5 := Tryd.zeroValue5
  t9 := Tryd.underlying9
  a9 := Tryd.isAgg9
  z9 := Tryd.sizeOf9
  v9 := Tryd.zeroValue9
  t21 := Tryd.underlying21
  a21 := Tryd.isAgg21
  z21 := Tryd.sizeOf21
  v21 := Tryd.zeroValue21
  t31 := Tryd.underlying43
  a31 := Tryd.isAgg43
  z31 := Tryd.sizeOf43
  v31 := Tryd.zeroValue43
  t46 := Tryd.underlying83
  a46 := Tryd.isAgg83
  z46 := Tryd.sizeOf83
  v46 := Tryd.zeroValue83
  t51 := Tryd.underlying100
  a51 := Tryd.isAgg100
  z51 := Tryd.sizeOf100
  v51 := Tryd.zeroValue100
  t105 := Tryd.underlying79
  a105 := Tryd.isAgg79
  z105 := Tryd.sizeOf79
  v105 := Tryd.zeroValue79
  t119 := Tryd.underlying120
  a119 := Tryd.isAgg120
  z119 := Tryd.sizeOf120
  t138 := Tryd.underlying122
  a138 := Tryd.isAgg122
  z138 := Tryd.sizeOf122
  v138 := Tryd.zeroValue122
  t139 := Tryd.underlying123
  a139 := Tryd.isAgg123
  z139 := Tryd.sizeOf123
  v139 := Tryd.zeroValue123
  t146 := Tryd.underlying101
  a146 := Tryd.isAgg101
  z146 := Tryd.sizeOf101
  v146 := Tryd.zeroValue101
  g1 := by kernel_rfl
  g3 := by kernel_rfl
  g4 := by kernel_rfl
def Tryd.laysCut_ren : Go.Shelf.Ren := ⟨fun | 145 => 15 | 220 => 22 | 219 => 32 | 217 => 46 | 225 => 47 | 224 => 48 | 267 => 49 | 266 => 68 | 314 => 69 | n => n, fun | 9 => 9 | 4 => 4 | 59 => 45 | 3 => 3 | 5 => 5 | 46 => 83 | 146 => 101 | 51 => 100 | n => n, fun | 1 => 0 | n => n⟩
theorem Tryd.laysCut : Lays.n145 Tryd.prog Tryd.laysCut_ren where
  mixed := by kernel_rfl
  f145 := by kernel_rfl
  f217 := by kernel_rfl
  f219 := by kernel_rfl
  f220 := by kernel_rfl
  f224 := by kernel_rfl
  f225 := by kernel_rfl
  f266 := by kernel_rfl
  f267 := by kernel_rfl
  f314 := by kernel_rfl
  t3 := Tryd.underlying3
  a3 := Tryd.isAgg3
  z3 := Tryd.sizeOf3
  v3 := Tryd.zeroValue3
  t4 := Tryd.underlying4
  a4 := Tryd.isAgg4
  z4 := Tryd.sizeOf4
  v4 := Tryd.zeroValue4
  t5 := Tryd.underlying5
  a5 := Tryd.isAgg5
  z5 := Tryd.sizeOf5
  v5 := Tryd.zeroValue5
  t9 := Tryd.underlying9
  a9 := Tryd.isAgg9
  z9 := Tryd.sizeOf9
  v9 := Tryd.zeroValue9
  t46 := Tryd.underlying83
  a46 := Tryd.isAgg83
  z46 := Tryd.sizeOf83
  v46 := Tryd.zeroValue83
  t51 := Tryd.underlying100
  a51 := Tryd.isAgg100
  z51 := Tryd.sizeOf100
  v51 := Tryd.zeroValue100
  t59 := Tryd.underlying45
  a59 := Tryd.isAgg45
  z59 := Tryd.sizeOf45
  v59 := Tryd.zeroValue45
  t146 := Tryd.underlying101
  a146 := Tryd.isAgg101
  z146 := Tryd.sizeOf101
  v146 := Tryd.zeroValue101
  g1 := by kernel_rfl
def Tryd.laysCS_ren : Go.Shelf.Ren := ⟨fun | 104 => 16 | 211 => 23 | 207 => 33 | n => n, fun | 9 => 9 | 4 => 4 | 24 => 47 | 3 => 3 | n => n, fun n => n⟩
theorem Tryd.laysCS : Lays.n104 Tryd.prog Tryd.laysCS_ren where
  mixed := by kernel_rfl
  f104 := by kernel_rfl
  f207 := by kernel_rfl
  f211 := by kernel_rfl
  t3 := Tryd.underlying3
  a3 := Tryd.isAgg3
  z3 := Tryd.sizeOf3
  v3 := Tryd.zeroValue3
  t4 := Tryd.underlying4
  a4 := Tryd.isAgg4
  z4 := Tryd.sizeOf4
  v4 := Tryd.zeroValue4
  t9 := Tryd.underlying9
  a9 := Tryd.isAgg9
  z9 := Tryd.sizeOf9
  v9 := Tryd.zeroValue9
  t24 := Tryd.underlying47
  a24 := Tryd.isAgg47
  z24 := Tryd.sizeOf47
  v24 := Tryd.zeroValue47
def Tryd.laysJoin_ren : Go.Shelf.Ren := ⟨fun | 156 => 28 | 165 => 40 | 166 => 41 | 169 => 42 | 240 => 65 | 241 => 66 | 276 => 84 | 277 => 85 | n => n, fun | 31 => 43 | 9 => 9 | 3 => 3 | 4 => 4 | 0 => 0 | 20 => 20 | 72 => 73 | 76 => 75 | 70 => 70 | 37 => 71 | 75 => 57 | 127 => 99 | 164 => 117 | 5 => 5 | 80 => 77 | n => n, fun n => n⟩
theorem Tryd.laysJoin : Lays.n156 Tryd.prog Tryd.laysJoin_ren where
  mixed := by kernel_rfl
  f156 := by kernel_rfl
  f165 := by kernel_rfl
  f166 := by kernel_rfl
  f169 := by kernel_rfl
  f240 := by kernel_rfl
  f241 := by kernel_rfl
  f276 := by kernel_rfl
  f277 := by kernel_rfl
  t0 := Tryd.underlying0
  a0 := Tryd.isAgg0
  z0 := Tryd.sizeOf0
  v0 := Tryd.zeroValue0
  t3 := Tryd.underlying3
  a3 := Tryd.isAgg3
  z3 := Tryd.sizeOf3
  v3 := Tryd.zeroValue3
  t4 := Tryd.underlying4
  a4 := Tryd.isAgg4
  z4 := Tryd.sizeOf4
  v4 := Tryd.zeroValue4
  t9 := Tryd.underlying9
  a9 := Tryd.isAgg9
  z9 := Tryd.sizeOf9
  v9 := Tryd.zeroValue9
  t20 := Tryd.underlying20
  a20 := Tryd.isAgg20
  z20 := Tryd.sizeOf20
  v20 := Tryd.zeroValue20
  t31 := Tryd.underlying43
  a31 := Tryd.isAgg43
  z31 := Tryd.sizeOf43
  v31 := Tryd.zeroValue43
  t37 := Tryd.underlying71
  a37 := Tryd.isAgg71
  z37 := Tryd.sizeOf71
  v37 := Tryd.zeroValue71
  t70 := Tryd.underlying70
  a70 := Tryd.isAgg70
  z70 := Tryd.sizeOf70
  v70 := Tryd.zeroValue70
  t72 := Tryd.underlying73
  a72 := Tryd.isAgg73
  z72 := Tryd.sizeOf73
  v72 := Tryd.zeroValue73
  t75 := Tryd.underlying57
  a75 := Tryd.isAgg57
  z75 := Tryd.sizeOf57
  v75 := Tryd.zeroValue57
  t76 := Tryd.underlying75
  a76 := Tryd.isAgg75
  z76 := Tryd.sizeOf75
  v76 := Tryd.zeroValue75
  t127 := Tryd.underlying99
  a127 := Tryd.isAgg99
  z127 := Tryd.sizeOf99
  v127 := Tryd.zeroValue99
  t164 := Tryd.underlying117
  a164 := Tryd.isAgg117
  z164 := Tryd.sizeOf117
  v164 := Tryd.zeroValue117

theorem Tryd.itoa_small (i : Nat) (hi : i < 100) (w : World) :
    Calls Tryd.prog 39 #[.int .i64 i, .int .i64 10] w fun e w' => e = .returned (.string ⟨(Lib.decDigits i).toArray⟩) ∧ w = w' :=
  (Any.strconv_FormatInt_10_small Tryd.laysFmt i hi w).mono fun _ _ ⟨h1, h2⟩ => ⟨h1, h2.symm⟩

theorem Tryd.parse_ok (s : ByteArray) (hmax : s.size ≤ 9223372036854775806) (v : Int) (h : Lib.parseIntB 64 s.data.toList = .ok v) (w : World) :
    Calls Tryd.prog 25 #[.string s, .int .i64 10, .int .i64 64] w fun e w' => e = .returned (.tuple #[.int .i64 v, .nilIface]) ∧ Below w.heap.size w w' :=
  (Any.strconv_ParseInt_10_at64_ok Tryd.laysPI s hmax v h w).mono fun _ _ ⟨h1, h2⟩ => ⟨h1, by
    rcases h2 with rfl | ⟨t, rfl⟩
    · exact Below.refl _ _
    · exact Lib.bytesWorld_below _ _ _⟩

theorem Tryd.cut_p (s sep : ByteArray) (m : Int) (w : World) (hs : s.size < 4294967281) (hm : w.cell? ⟨0, 0, none⟩ = some (.int .i64 m)) :
    Calls Tryd.prog 15 #[.string s, .string sep] w fun e w' => e = .returned (.tuple #[.string ⟨(Lib.cut s.data.toList sep.data.toList).1.toArray⟩, .string ⟨(Lib.cut s.data.toList sep.data.toList).2.1.toArray⟩, .bool (Lib.cut s.data.toList sep.data.toList).2.2]) ∧ Below w.heap.size w w' :=
  (Any.strings_Cut Tryd.laysCut s sep m w hs hm).mono fun _ _ ⟨h1, n, h2⟩ => ⟨h1, by
    subst h2
    exact ⟨rfl, rfl, rfl, Nat.le_refl _, fun _ _ => rfl⟩⟩

theorem Tryd.trimp_p (s p : ByteArray) (w : World) :
    Calls Tryd.prog 34 #[.string s, .string p] w fun e w' => e = .returned (.string ⟨(Lib.trimPrefix s.data.toList p.data.toList).toArray⟩) ∧ w = w' :=
  (Any.strings_TrimPrefix Tryd.laysTP s p w).mono fun _ _ ⟨h1, h2⟩ => ⟨h1, h2.symm⟩

theorem Tryd.trim_p (s cutset : ByteArray) (w : World) (hs : s.size ≤ 9223372036854775807) (hcs : cutset.size < 4294967281)
    (hascii : cutset.data.toList.all (fun b => decide (b.toNat < 128)) = true) :
    Calls Tryd.prog 35 #[.string s, .string cutset] w fun e w' => e = .returned (.string ⟨(Lib.trimS s.data.toList cutset.data.toList).toArray⟩) ∧ Below w.heap.size w w' :=
  Any.strings_Trim_laid Tryd.laysTrim (by kernel_rfl) s cutset w hs hcs (ascii_of_all hascii)

theorem Tryd.csuf_p (s p : ByteArray) (w : World) (hs : s.size ≤ 9223372036854775807) :
    Calls Tryd.prog 16 #[.string s, .string p] w fun e w' => e = .returned (.tuple #[.string ⟨(Lib.trimSuffix s.data.toList p.data.toList).toArray⟩, .bool (Lib.hasSuffix s.data.toList p.data.toList)]) ∧ w = w' :=
  (Any.strings_CutSuffix Tryd.laysCS s p w hs).mono fun _ _ ⟨h1, h2⟩ => ⟨h1, h2.symm⟩

theorem Tryd.split_p (s sep : ByteArray) (m : Int) (w : World) (hs : s.size < 4294967281) (hm : w.cell? ⟨0, 0, none⟩ = some (.int .i64 m)) (h1 : 1 ≤ sep.size) :
    Calls Tryd.prog 14 #[.string s, .string sep] w fun e w' =>
      e = .returned (.slice (some ⟨w.heap.size, 0, none⟩) (Lib.countB s sep + 1) (Lib.countB s sep + 1)) ∧ w' = w.alloc (.cells ((Lib.splitB sep 0 (Lib.countB s sep) s).map Value.string).toArray 9) :=
  Any.strings_Split Tryd.laysSplit (by kernel_rfl) s sep m w hs hm h1

theorem Tryd.extraJ : Builder.Extra Tryd.prog Tryd.laysJoin_ren where
  sizeBuilder := by kernel_rfl
  liesBuilder := by kernel_rfl
  t5 := Tryd.underlying5
  a5 := Tryd.isAgg5
  z5 := Tryd.sizeOf5
  v5 := Tryd.zeroValue5
  infoByte := by kernel_rfl
  cellsByte := by kernel_rfl
  sizeByte := by kernel_rfl
  neB5 := by decide
theorem Tryd.join_p (bk o c : Nat) (xs : List ByteArray) (sep : ByteArray) (w : World)
    (hcells : ∀ (j : Nat) x, xs[j]? = some x → w.cell? ⟨bk, o + j, none⟩ = some (.string x))
    (hbk : bk < w.heap.size) (hN : xs.length ≤ 140737488355328) (hcap : xs.length ≤ c)
    (hlen : (Lib.join (xs.map (·.data.toList)) sep.data.toList).length ≤ 140737488355328) :
    Calls Tryd.prog 28 #[.slice (some ⟨bk, o, none⟩) xs.length c, .string sep] w fun e w' => e = .returned (.string ⟨(Lib.join (xs.map (·.data.toList)) sep.data.toList).toArray⟩) ∧ Below w.heap.size w w' :=
  Any.strings_Join Tryd.laysJoin Tryd.extraJ bk o c xs sep w hcells hbk hN hcap hlen
end Go.Proofs
