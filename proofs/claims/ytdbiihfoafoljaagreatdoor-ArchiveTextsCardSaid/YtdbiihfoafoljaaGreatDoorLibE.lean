/-
  Chapter 8: the shelf's contracts of the library, laid at this program.
-/
import Derived.Test.YtdbiihfoafoljaaGreatDoorRows
import Derived.Test.YtdbiihfoafoljaaGreatDoorBase
import Derived.Shelf.Strings.Cut
import Derived.Shelf.Strings.BuilderF
import Derived.WalkKit
import Derived.Shelf.Strconv.Itoa4
import Derived.Shelf.Strconv.ParseIntPublic10
import Derived.Shelf.Strings.Prefix
import Derived.Shelf.Strings.SlTrimAscii
import Derived.Shelf.Strings.Split
import Derived.Shelf.Small.Strs
import Derived.Shelf.Strings.BuilderK
import Derived.Shelf.Strings.OnBuilder
set_option linter.unusedSimpArgs false
set_option linter.unusedVariables false
namespace Go.Proofs.YtdbiihfoafoljaaGreatDoor
open Go.Shelf Go.RowKit
set_option maxRecDepth 100000
set_option maxHeartbeats 4000000
def Tryz.laysFmt_ren : Go.Shelf.Ren := ⟨fun | 173 => 48 | 246 => 74 | 283 => 106 | 284 => 107 | 285 => 108 | 286 => 109 | 129 => 104 | 317 => 143 | 318 => 144 | 319 => 145 | 320 => 146 | 337 => 165 | 338 => 166 | n => n, fun | 2 => 2 | 3 => 3 | 9 => 9 | 4 => 4 | 171 => 144 | 0 => 0 | 53 => 108 | 37 => 54 | 5 => 5 | 173 => 146 | 212 => 180 | 51 => 142 | 20 => 20 | 213 => 181 | 46 => 113 | 232 => 205 | 233 => 206 | n => n, fun | 17 => 1 | 18 => 4 | 19 => 5 | n => n⟩
theorem Tryz.laysFmt : Go.Proofs.LaysM.n173 Go.Proofs.Tryz.prog Tryz.laysFmt_ren where
  mixed := by kernel_rfl
  f129 := by kernel_rfl
  f173 := by kernel_rfl
  f246 := by kernel_rfl
  f283 := by kernel_rfl
  f284 := by kernel_rfl
  f285 := by kernel_rfl
  f286 := by kernel_rfl
  f317 := by kernel_rfl
  f318 := by kernel_rfl
  f319 := by kernel_rfl
  f320 := by kernel_rfl
  f337 := by kernel_rfl
  f338 := by kernel_rfl
  t0 := Go.Proofs.Tryz.underlying0
  a0 := Go.Proofs.Tryz.isAgg0
  z0 := Go.Proofs.Tryz.sizeOf0
  v0 := Go.Proofs.Tryz.zeroValue0
  t2 := Go.Proofs.Tryz.underlying2
  a2 := Go.Proofs.Tryz.isAgg2
  z2 := Go.Proofs.Tryz.sizeOf2
  v2 := Go.Proofs.Tryz.zeroValue2
  t3 := Go.Proofs.Tryz.underlying3
  a3 := Go.Proofs.Tryz.isAgg3
  z3 := Go.Proofs.Tryz.sizeOf3
  v3 := Go.Proofs.Tryz.zeroValue3
  t4 := Go.Proofs.Tryz.underlying4
  a4 := Go.Proofs.Tryz.isAgg4
  z4 := Go.Proofs.Tryz.sizeOf4
  v4 := Go.Proofs.Tryz.zeroValue4
  t5 := Go.Proofs.Tryz.underlying5
  a5 := Go.Proofs.Tryz.isAgg5
  z5 := Go.Proofs.Tryz.sizeOf5
  v5 := Go.Proofs.Tryz.zeroValue5
  t9 := Go.Proofs.Tryz.underlying9
  a9 := Go.Proofs.Tryz.isAgg9
  z9 := Go.Proofs.Tryz.sizeOf9
  v9 := Go.Proofs.Tryz.zeroValue9
  t20 := Go.Proofs.Tryz.underlying20
  a20 := Go.Proofs.Tryz.isAgg20
  z20 := Go.Proofs.Tryz.sizeOf20
  v20 := Go.Proofs.Tryz.zeroValue20
  t37 := Go.Proofs.Tryz.underlying54
  a37 := Go.Proofs.Tryz.isAgg54
  z37 := Go.Proofs.Tryz.sizeOf54
  v37 := Go.Proofs.Tryz.zeroValue54
  t46 := Go.Proofs.Tryz.underlying113
  a46 := Go.Proofs.Tryz.isAgg113
  z46 := Go.Proofs.Tryz.sizeOf113
  v46 := Go.Proofs.Tryz.zeroValue113
  t51 := Go.Proofs.Tryz.underlying142
  a51 := Go.Proofs.Tryz.isAgg142
  z51 := Go.Proofs.Tryz.sizeOf142
  v51 := Go.Proofs.Tryz.zeroValue142
  t53 := Go.Proofs.Tryz.underlying108
  a53 := Go.Proofs.Tryz.isAgg108
  z53 := Go.Proofs.Tryz.sizeOf108
  v53 := Go.Proofs.Tryz.zeroValue108
  t171 := Go.Proofs.Tryz.underlying144
  a171 := Go.Proofs.Tryz.isAgg144
  z171 := Go.Proofs.Tryz.sizeOf144
  v171 := Go.Proofs.Tryz.zeroValue144
  t173 := Go.Proofs.Tryz.underlying146
  a173 := Go.Proofs.Tryz.isAgg146
  z173 := Go.Proofs.Tryz.sizeOf146
  v173 := Go.Proofs.Tryz.zeroValue146
  t212 := Go.Proofs.Tryz.underlying180
  a212 := Go.Proofs.Tryz.isAgg180
  z212 := Go.Proofs.Tryz.sizeOf180
  v212 := Go.Proofs.Tryz.zeroValue180
  t213 := Go.Proofs.Tryz.underlying181
  a213 := Go.Proofs.Tryz.isAgg181
  z213 := Go.Proofs.Tryz.sizeOf181
  t232 := Go.Proofs.Tryz.underlying205
  a232 := Go.Proofs.Tryz.isAgg205
  z232 := Go.Proofs.Tryz.sizeOf205
  v232 := Go.Proofs.Tryz.zeroValue205
  t233 := Go.Proofs.Tryz.underlying206
  a233 := Go.Proofs.Tryz.isAgg206
  z233 := Go.Proofs.Tryz.sizeOf206
  v233 := Go.Proofs.Tryz.zeroValue206
  g17 := by kernel_rfl
  g18 := by kernel_rfl
  g19 := by kernel_rfl
  i0 := by kernel_rfl
  i2 := by kernel_rfl
  i3 := by kernel_rfl
  i4 := by kernel_rfl
  i5 := by kernel_rfl
  i9 := by kernel_rfl
  i20 := by kernel_rfl
  i37 := by kernel_rfl
  i46 := by kernel_rfl
  i51 := by kernel_rfl
  i53 := by kernel_rfl
  i171 := by kernel_rfl
  i173 := by kernel_rfl
  i212 := by kernel_rfl
  i232 := by kernel_rfl
  i233 := by kernel_rfl
  m17 := by kernel_rfl
  m18 := by kernel_rfl
  m19 := by kernel_rfl
def Tryz.laysPI_ren : Go.Shelf.Ren := ⟨fun | 174 => 59 | 247 => 87 | 245 => 88 | 287 => 123 | 279 => 124 | 280 => 125 | 281 => 126 | 282 => 127 | 321 => 153 | 322 => 154 | 316 => 155 | 171 => 157 | 205 => 156 | 243 => 170 | 246 => 74 | 283 => 106 | 284 => 107 | 285 => 108 | 286 => 109 | 129 => 104 | 317 => 143 | 318 => 144 | 319 => 145 | 320 => 146 | 337 => 165 | 338 => 166 | n => n, fun | 9 => 9 | 3 => 3 | 2 => 2 | 75 => 59 | 85 => 101 | 4 => 4 | 167 => 156 | 5 => 5 | 53 => 108 | 175 => 157 | 46 => 113 | 168 => 159 | 37 => 54 | 0 => 0 | 210 => 191 | 21 => 21 | 127 => 98 | 145 => 204 | 143 => 202 | 171 => 144 | 173 => 146 | 212 => 180 | 51 => 142 | 20 => 20 | 213 => 181 | 232 => 205 | 233 => 206 | 80 => 64 | n => n, fun | 15 => 2 | 16 => 3 | 17 => 1 | 18 => 4 | 19 => 5 | n => n⟩
theorem Tryz.laysPI : Go.Proofs.LaysC.n174 Go.Proofs.Tryz.prog Tryz.laysPI_ren where
  mixed := by kernel_rfl
  f129 := by kernel_rfl
  f171 := by kernel_rfl
  f174 := by kernel_rfl
  f205 := by kernel_rfl
  f243 := by kernel_rfl
  f245 := by kernel_rfl
  f246 := by kernel_rfl
  f247 := by kernel_rfl
  f279 := by kernel_rfl
  f280 := by kernel_rfl
  f281 := by kernel_rfl
  f282 := by kernel_rfl
  f283 := by kernel_rfl
  f284 := by kernel_rfl
  f285 := by kernel_rfl
  f286 := by kernel_rfl
  f287 := by kernel_rfl
  f316 := by kernel_rfl
  f317 := by kernel_rfl
  f318 := by kernel_rfl
  f319 := by kernel_rfl
  f320 := by kernel_rfl
  f321 := by kernel_rfl
  f322 := by kernel_rfl
  f337 := by kernel_rfl
  f338 := by kernel_rfl
  t0 := Go.Proofs.Tryz.underlying0
  a0 := Go.Proofs.Tryz.isAgg0
  z0 := Go.Proofs.Tryz.sizeOf0
  v0 := Go.Proofs.Tryz.zeroValue0
  t2 := Go.Proofs.Tryz.underlying2
  a2 := Go.Proofs.Tryz.isAgg2
  z2 := Go.Proofs.Tryz.sizeOf2
  v2 := Go.Proofs.Tryz.zeroValue2
  t3 := Go.Proofs.Tryz.underlying3
  a3 := Go.Proofs.Tryz.isAgg3
  z3 := Go.Proofs.Tryz.sizeOf3
  v3 := Go.Proofs.Tryz.zeroValue3
  t4 := Go.Proofs.Tryz.underlying4
  a4 := Go.Proofs.Tryz.isAgg4
  z4 := Go.Proofs.Tryz.sizeOf4
  v4 := Go.Proofs.Tryz.zeroValue4
  t5 := Go.Proofs.Tryz.underlying5
  a5 := Go.Proofs.Tryz.isAgg5
  z5 := Go.Proofs.Tryz.sizeOf5
  v5 := Go.Proofs.Tryz.zeroValue5
  t9 := Go.Proofs.Tryz.underlying9
  a9 := Go.Proofs.Tryz.isAgg9
  z9 := Go.Proofs.Tryz.sizeOf9
  v9 := Go.Proofs.Tryz.zeroValue9
  t20 := Go.Proofs.Tryz.underlying20
  a20 := Go.Proofs.Tryz.isAgg20
  z20 := Go.Proofs.Tryz.sizeOf20
  v20 := Go.Proofs.Tryz.zeroValue20
  t21 := Go.Proofs.Tryz.underlying21
  a21 := Go.Proofs.Tryz.isAgg21
  z21 := Go.Proofs.Tryz.sizeOf21
  v21 := Go.Proofs.Tryz.zeroValue21
  t37 := Go.Proofs.Tryz.underlying54
  a37 := Go.Proofs.Tryz.isAgg54
  z37 := Go.Proofs.Tryz.sizeOf54
  v37 := Go.Proofs.Tryz.zeroValue54
  t46 := Go.Proofs.Tryz.underlying113
  a46 := Go.Proofs.Tryz.isAgg113
  z46 := Go.Proofs.Tryz.sizeOf113
  v46 := Go.Proofs.Tryz.zeroValue113
  t51 := Go.Proofs.Tryz.underlying142
  a51 := Go.Proofs.Tryz.isAgg142
  z51 := Go.Proofs.Tryz.sizeOf142
  v51 := Go.Proofs.Tryz.zeroValue142
  t53 := Go.Proofs.Tryz.underlying108
  a53 := Go.Proofs.Tryz.isAgg108
  z53 := Go.Proofs.Tryz.sizeOf108
  v53 := Go.Proofs.Tryz.zeroValue108
  t75 := Go.Proofs.Tryz.underlying59
  a75 := Go.Proofs.Tryz.isAgg59
  z75 := Go.Proofs.Tryz.sizeOf59
  v75 := Go.Proofs.Tryz.zeroValue59
  t85 := Go.Proofs.Tryz.underlying101
  a85 := Go.Proofs.Tryz.isAgg101
  z85 := Go.Proofs.Tryz.sizeOf101
  v85 := Go.Proofs.Tryz.zeroValue101
  t127 := Go.Proofs.Tryz.underlying98
  a127 := Go.Proofs.Tryz.isAgg98
  z127 := Go.Proofs.Tryz.sizeOf98
  v127 := Go.Proofs.Tryz.zeroValue98
  t143 := Go.Proofs.Tryz.underlying202
  a143 := Go.Proofs.Tryz.isAgg202
  z143 := Go.Proofs.Tryz.sizeOf202
  v143 := Go.Proofs.Tryz.zeroValue202
  t145 := Go.Proofs.Tryz.underlying204
  a145 := Go.Proofs.Tryz.isAgg204
  z145 := Go.Proofs.Tryz.sizeOf204
  v145 := Go.Proofs.Tryz.zeroValue204
  t167 := Go.Proofs.Tryz.underlying156
  a167 := Go.Proofs.Tryz.isAgg156
  z167 := Go.Proofs.Tryz.sizeOf156
  v167 := Go.Proofs.Tryz.zeroValue156
  t168 := Go.Proofs.Tryz.underlying159
  a168 := Go.Proofs.Tryz.isAgg159
  z168 := Go.Proofs.Tryz.sizeOf159
  v168 := Go.Proofs.Tryz.zeroValue159
  t171 := Go.Proofs.Tryz.underlying144
  a171 := Go.Proofs.Tryz.isAgg144
  z171 := Go.Proofs.Tryz.sizeOf144
  v171 := Go.Proofs.Tryz.zeroValue144
  t173 := Go.Proofs.Tryz.underlying146
  a173 := Go.Proofs.Tryz.isAgg146
  z173 := Go.Proofs.Tryz.sizeOf146
  v173 := Go.Proofs.Tryz.zeroValue146
  t175 := Go.Proofs.Tryz.underlying157
  a175 := Go.Proofs.Tryz.isAgg157
  z175 := Go.Proofs.Tryz.sizeOf157
  v175 := Go.Proofs.Tryz.zeroValue157
  t210 := Go.Proofs.Tryz.underlying191
  a210 := Go.Proofs.Tryz.isAgg191
  z210 := Go.Proofs.Tryz.sizeOf191
  v210 := Go.Proofs.Tryz.zeroValue191
  t212 := Go.Proofs.Tryz.underlying180
  a212 := Go.Proofs.Tryz.isAgg180
  z212 := Go.Proofs.Tryz.sizeOf180
  v212 := Go.Proofs.Tryz.zeroValue180
  t213 := Go.Proofs.Tryz.underlying181
  a213 := Go.Proofs.Tryz.isAgg181
  z213 := Go.Proofs.Tryz.sizeOf181
  t232 := Go.Proofs.Tryz.underlying205
  a232 := Go.Proofs.Tryz.isAgg205
  z232 := Go.Proofs.Tryz.sizeOf205
  v232 := Go.Proofs.Tryz.zeroValue205
  t233 := Go.Proofs.Tryz.underlying206
  a233 := Go.Proofs.Tryz.isAgg206
  z233 := Go.Proofs.Tryz.sizeOf206
  v233 := Go.Proofs.Tryz.zeroValue206
  g15 := by kernel_rfl
  g16 := by kernel_rfl
  g17 := by kernel_rfl
  g18 := by kernel_rfl
  g19 := by kernel_rfl
  t80 := Go.Proofs.Tryz.underlying64
  a80 := Go.Proofs.Tryz.isAgg64
  z80 := Go.Proofs.Tryz.sizeOf64
  v80 := Go.Proofs.Tryz.zeroValue64
  i0 := by kernel_rfl
  i2 := by kernel_rfl
  i3 := by kernel_rfl
  i4 := by kernel_rfl
  i5 := by kernel_rfl
  i9 := by kernel_rfl
  i20 := by kernel_rfl
  i21 := by kernel_rfl
  i37 := by kernel_rfl
  i46 := by kernel_rfl
  i51 := by kernel_rfl
  i53 := by kernel_rfl
  i75 := by kernel_rfl
  i80 := by kernel_rfl
  i85 := by kernel_rfl
  i127 := by kernel_rfl
  i143 := by kernel_rfl
  i145 := by kernel_rfl
  i167 := by kernel_rfl
  i168 := by kernel_rfl
  i171 := by kernel_rfl
  i173 := by kernel_rfl
  i175 := by kernel_rfl
  i210 := by kernel_rfl
  i212 := by kernel_rfl
  i232 := by kernel_rfl
  i233 := by kernel_rfl
  m15 := by kernel_rfl
  m16 := by kernel_rfl
  m17 := by kernel_rfl
  m18 := by kernel_rfl
  m19 := by kernel_rfl
  c0 := by kernel_rfl
  c2 := by kernel_rfl
  c3 := by kernel_rfl
  c4 := by kernel_rfl
  c5 := by kernel_rfl
  c9 := by kernel_rfl
  c20 := by kernel_rfl
  c21 := by kernel_rfl
  c37 := by kernel_rfl
  c46 := by kernel_rfl
  c51 := by kernel_rfl
  c53 := by kernel_rfl
  c75 := by kernel_rfl
  c80 := by kernel_rfl
  c85 := by kernel_rfl
  c127 := by kernel_rfl
  c143 := by kernel_rfl
  c145 := by kernel_rfl
  c167 := by kernel_rfl
  c168 := by kernel_rfl
  c171 := by kernel_rfl
  c173 := by kernel_rfl
  c175 := by kernel_rfl
  c210 := by kernel_rfl
  c212 := by kernel_rfl
  c213 := by kernel_rfl
  c232 := by kernel_rfl
  c233 := by kernel_rfl
def Tryz.laysTP_ren : Go.Shelf.Ren := ⟨fun | 101 => 85 | 208 => 115 | 206 => 148 | n => n, fun | 9 => 9 | 4 => 4 | 3 => 3 | n => n, fun n => n⟩
theorem Tryz.laysTP : Go.Proofs.Lays.n101 Go.Proofs.Tryz.prog Tryz.laysTP_ren where
  mixed := by kernel_rfl
  f101 := by kernel_rfl
  f206 := by kernel_rfl
  f208 := by kernel_rfl
  t3 := Go.Proofs.Tryz.underlying3
  a3 := Go.Proofs.Tryz.isAgg3
  z3 := Go.Proofs.Tryz.sizeOf3
  v3 := Go.Proofs.Tryz.zeroValue3
  t4 := Go.Proofs.Tryz.underlying4
  a4 := Go.Proofs.Tryz.isAgg4
  z4 := Go.Proofs.Tryz.sizeOf4
  v4 := Go.Proofs.Tryz.zeroValue4
  t9 := Go.Proofs.Tryz.underlying9
  a9 := Go.Proofs.Tryz.isAgg9
  z9 := Go.Proofs.Tryz.sizeOf9
  v9 := Go.Proofs.Tryz.zeroValue9
def Tryz.laysTrim_ren : Go.Shelf.Ren := ⟨fun | 160 => 86 | 232 => 117 | 231 => 116 | 227 => 118 | 234 => 120 | 233 => 119 | 236 => 122 | 235 => 121 | 228 => 149 | 271 => 152 | 151 => 151 | 197 => 150 | 120 => 169 | 152 => 168 | 260 => 167 | 137 => 55 | 119 => 171 | 224 => 113 | 225 => 112 | 217 => 82 | 266 => 111 | n => n, fun | 9 => 9 | 4 => 4 | 3 => 3 | 5 => 5 | 117 => 152 | 116 => 151 | 0 => 0 | 124 => 155 | 21 => 21 | 105 => 185 | 46 => 113 | 119 => 207 | 139 => 210 | 138 => 209 | n => n, fun | 3 => 6 | 4 => 7 | n => n⟩
theorem Tryz.laysTrim : Go.Proofs.Lays.n160 Go.Proofs.Tryz.prog Tryz.laysTrim_ren where
  mixed := by kernel_rfl
  f119 := by kernel_rfl
  f120 := by kernel_rfl
  f137 := by kernel_rfl
  f151 := by kernel_rfl
  f152 := by kernel_rfl
  f160 := by kernel_rfl
  f197 := by kernel_rfl
  f217 := by kernel_rfl
  f224 := by kernel_rfl
  f225 := by kernel_rfl
  f227 := by kernel_rfl
  f228 := by kernel_rfl
  f231 := by kernel_rfl
  f232 := by kernel_rfl
  f233 := by kernel_rfl
  f234 := by kernel_rfl
  f235 := by kernel_rfl
  f236 := by kernel_rfl
  f260 := by kernel_rfl
  f266 := by kernel_rfl
  f271 := by kernel_rfl
  t0 := Go.Proofs.Tryz.underlying0
  a0 := Go.Proofs.Tryz.isAgg0
  z0 := Go.Proofs.Tryz.sizeOf0
  v0 := Go.Proofs.Tryz.zeroValue0
  t3 := Go.Proofs.Tryz.underlying3
  a3 := Go.Proofs.Tryz.isAgg3
  z3 := Go.Proofs.Tryz.sizeOf3
  v3 := Go.Proofs.Tryz.zeroValue3
  t4 := Go.Proofs.Tryz.underlying4
  a4 := Go.Proofs.Tryz.isAgg4
  z4 := Go.Proofs.Tryz.sizeOf4
  v4 := Go.Proofs.Tryz.zeroValue4
  t5 := Go.Proofs.Tryz.underlying5
  a5 := Go.Proofs.Tryz.isAgg5
  z5 := Go.Proofs.Tryz.sizeOf5
  v5 := Go.Proofs.Tryz.zeroValue5
  t9 := Go.Proofs.Tryz.underlying9
  a9 := Go.Proofs.Tryz.isAgg9
  z9 := Go.Proofs.Tryz.sizeOf9
  v9 := Go.Proofs.Tryz.zeroValue9
  t21 := Go.Proofs.Tryz.underlying21
  a21 := Go.Proofs.Tryz.isAgg21
  z21 := Go.Proofs.Tryz.sizeOf21
  v21 := Go.Proofs.Tryz.zeroValue21
  t46 := Go.Proofs.Tryz.underlying113
  a46 := Go.Proofs.Tryz.isAgg113
  z46 := Go.Proofs.Tryz.sizeOf113
  v46 := Go.Proofs.Tryz.zeroValue113
  t105 := Go.Proofs.Tryz.underlying185
  a105 := Go.Proofs.Tryz.isAgg185
  z105 := Go.Proofs.Tryz.sizeOf185
  v105 := Go.Proofs.Tryz.zeroValue185
  t116 := Go.Proofs.Tryz.underlying151
  a116 := Go.Proofs.Tryz.isAgg151
  z116 := Go.Proofs.Tryz.sizeOf151
  t117 := Go.Proofs.Tryz.underlying152
  a117 := Go.Proofs.Tryz.isAgg152
  z117 := Go.Proofs.Tryz.sizeOf152
  v117 := Go.Proofs.Tryz.zeroValue152
  t119 := Go.Proofs.Tryz.underlying207
  a119 := Go.Proofs.Tryz.isAgg207
  z119 := Go.Proofs.Tryz.sizeOf207
  t124 := Go.Proofs.Tryz.underlying155
  a124 := Go.Proofs.Tryz.isAgg155
  z124 := Go.Proofs.Tryz.sizeOf155
  v124 := Go.Proofs.Tryz.zeroValue155
  t138 := Go.Proofs.Tryz.underlying209
  a138 := Go.Proofs.Tryz.isAgg209
  z138 := Go.Proofs.Tryz.sizeOf209
  v138 := Go.Proofs.Tryz.zeroValue209
  t139 := Go.Proofs.Tryz.underlying210
  a139 := Go.Proofs.Tryz.isAgg210
  z139 := Go.Proofs.Tryz.sizeOf210
  v139 := Go.Proofs.Tryz.zeroValue210
  g3 := by kernel_rfl
  g4 := by kernel_rfl
def Tryz.laysSplit_ren : Go.Shelf.Ren := ⟨fun | 146 => 60 | 221 => 89 | 268 => 128 | 138 => 129 | 143 => 130 | 195 => 158 | 197 => 150 | 218 => 159 | 219 => 83 | 260 => 167 | 217 => 82 | 225 => 112 | 224 => 113 | 267 => 114 | 266 => 111 | 314 => 147 | n => n, fun | 9 => 9 | 31 => 75 | 3 => 3 | 4 => 4 | 0 => 0 | 105 => 185 | 21 => 21 | 5 => 5 | 46 => 113 | 119 => 207 | 139 => 210 | 138 => 209 | 146 => 183 | 51 => 142 | n => n, fun | 1 => 0 | 3 => 6 | 4 => 7 | n => n⟩
theorem Tryz.laysSplit : Go.Proofs.Lays.n146 Go.Proofs.Tryz.prog Tryz.laysSplit_ren where
  mixed := by kernel_rfl
  f138 := by kernel_rfl
  f143 := by kernel_rfl
  f146 := by kernel_rfl
  f195 := by kernel_rfl
  f197 := by kernel_rfl
  f217 := by kernel_rfl
  f218 := by kernel_rfl
  f219 := by kernel_rfl
  f221 := by kernel_rfl
  f224 := by kernel_rfl
  f225 := by kernel_rfl
  f260 := by kernel_rfl
  f266 := by kernel_rfl
  f267 := by kernel_rfl
  f268 := by kernel_rfl
  f314 := by kernel_rfl
  t0 := Go.Proofs.Tryz.underlying0
  a0 := Go.Proofs.Tryz.isAgg0
  z0 := Go.Proofs.Tryz.sizeOf0
  v0 := Go.Proofs.Tryz.zeroValue0
  t3 := Go.Proofs.Tryz.underlying3
  a3 := Go.Proofs.Tryz.isAgg3
  z3 := Go.Proofs.Tryz.sizeOf3
  v3 := Go.Proofs.Tryz.zeroValue3
  t4 := Go.Proofs.Tryz.underlying4
  a4 := Go.Proofs.Tryz.isAgg4
  z4 := Go.Proofs.Tryz.sizeOf4
  v4 := Go.Proofs.Tryz.zeroValue4
  t5 := Go.Proofs.Tryz.underlying5
  a5 := Go.Proofs.Tryz.isAgg5
  z5 := Go.Proofs.Tryz.sizeOf5
  v5 := Go.Proofs.Tryz.zeroValue5
  t9 := Go.Proofs.Tryz.underlying9
  a9 := Go.Proofs.Tryz.isAgg9
  z9 := Go.Proofs.Tryz.sizeOf9
  v9 := Go.Proofs.Tryz.zeroValue9
  t21 := Go.Proofs.Tryz.underlying21
  a21 := Go.Proofs.Tryz.isAgg21
  z21 := Go.Proofs.Tryz.sizeOf21
  v21 := Go.Proofs.Tryz.zeroValue21
  t31 := Go.Proofs.Tryz.underlying75
  a31 := Go.Proofs.Tryz.isAgg75
  z31 := Go.Proofs.Tryz.sizeOf75
  v31 := Go.Proofs.Tryz.zeroValue75
  t46 := Go.Proofs.Tryz.underlying113
  a46 := Go.Proofs.Tryz.isAgg113
  z46 := Go.Proofs.Tryz.sizeOf113
  v46 := Go.Proofs.Tryz.zeroValue113
  t51 := Go.Proofs.Tryz.underlying142
  a51 := Go.Proofs.Tryz.isAgg142
  z51 := Go.Proofs.Tryz.sizeOf142
  v51 := Go.Proofs.Tryz.zeroValue142
  t105 := Go.Proofs.Tryz.underlying185
  a105 := Go.Proofs.Tryz.isAgg185
  z105 := Go.Proofs.Tryz.sizeOf185
  v105 := Go.Proofs.Tryz.zeroValue185
  t119 := Go.Proofs.Tryz.underlying207
  a119 := Go.Proofs.Tryz.isAgg207
  z119 := Go.Proofs.Tryz.sizeOf207
  t138 := Go.Proofs.Tryz.underlying209
  a138 := Go.Proofs.Tryz.isAgg209
  z138 := Go.Proofs.Tryz.sizeOf209
  v138 := Go.Proofs.Tryz.zeroValue209
  t139 := Go.Proofs.Tryz.underlying210
  a139 := Go.Proofs.Tryz.isAgg210
  z139 := Go.Proofs.Tryz.sizeOf210
  v139 := Go.Proofs.Tryz.zeroValue210
  t146 := Go.Proofs.Tryz.underlying183
  a146 := Go.Proofs.Tryz.isAgg183
  z146 := Go.Proofs.Tryz.sizeOf183
  v146 := Go.Proofs.Tryz.zeroValue183
  g1 := by kernel_rfl
  g3 := by kernel_rfl
  g4 := by kernel_rfl
def Tryz.laysIB_ren : Go.Shelf.Ren := ⟨fun | 137 => 55 | 217 => 82 | 266 => 111 | n => n, fun | 9 => 9 | 5 => 5 | 3 => 3 | n => n, fun n => n⟩
theorem Tryz.laysIB : Go.Proofs.Lays.n137 Go.Proofs.Tryz.prog Tryz.laysIB_ren where
  mixed := by kernel_rfl
  f137 := by kernel_rfl
  f217 := by kernel_rfl
  f266 := by kernel_rfl
  t3 := Go.Proofs.Tryz.underlying3
  a3 := Go.Proofs.Tryz.isAgg3
  z3 := Go.Proofs.Tryz.sizeOf3
  v3 := Go.Proofs.Tryz.zeroValue3
  t5 := Go.Proofs.Tryz.underlying5
  a5 := Go.Proofs.Tryz.isAgg5
  z5 := Go.Proofs.Tryz.sizeOf5
  v5 := Go.Proofs.Tryz.zeroValue5
  t9 := Go.Proofs.Tryz.underlying9
  a9 := Go.Proofs.Tryz.isAgg9
  z9 := Go.Proofs.Tryz.sizeOf9
  v9 := Go.Proofs.Tryz.zeroValue9
def Tryz.laysTS_ren : Go.Shelf.Ren := ⟨fun | 102 => 29 | 209 => 57 | 207 => 84 | n => n, fun | 9 => 9 | 4 => 4 | 3 => 3 | n => n, fun n => n⟩
theorem Tryz.laysTS : Go.Proofs.Lays.n102 Go.Proofs.Tryz.prog Tryz.laysTS_ren where
  mixed := by kernel_rfl
  f102 := by kernel_rfl
  f207 := by kernel_rfl
  f209 := by kernel_rfl
  t3 := Go.Proofs.Tryz.underlying3
  a3 := Go.Proofs.Tryz.isAgg3
  z3 := Go.Proofs.Tryz.sizeOf3
  v3 := Go.Proofs.Tryz.zeroValue3
  t4 := Go.Proofs.Tryz.underlying4
  a4 := Go.Proofs.Tryz.isAgg4
  z4 := Go.Proofs.Tryz.sizeOf4
  v4 := Go.Proofs.Tryz.zeroValue4
  t9 := Go.Proofs.Tryz.underlying9
  a9 := Go.Proofs.Tryz.isAgg9
  z9 := Go.Proofs.Tryz.sizeOf9
  v9 := Go.Proofs.Tryz.zeroValue9
def Tryz.laysCut_ren : Go.Shelf.Ren := ⟨fun | 145 => 28 | 220 => 56 | 219 => 83 | 217 => 82 | 225 => 112 | 224 => 113 | 267 => 114 | 266 => 111 | 314 => 147 | n => n, fun | 9 => 9 | 4 => 4 | 59 => 68 | 3 => 3 | 5 => 5 | 46 => 113 | 146 => 183 | 51 => 142 | n => n, fun | 1 => 0 | n => n⟩
theorem Tryz.laysCut : Go.Proofs.Lays.n145 Go.Proofs.Tryz.prog Tryz.laysCut_ren where
  mixed := by kernel_rfl
  f145 := by kernel_rfl
  f217 := by kernel_rfl
  f219 := by kernel_rfl
  f220 := by kernel_rfl
  f224 := by kernel_rfl
  f225 := by kernel_rfl
  f266 := by kernel_rfl
  f267 := by kernel_rfl
  f314 := by kernel_rfl
  t3 := Go.Proofs.Tryz.underlying3
  a3 := Go.Proofs.Tryz.isAgg3
  z3 := Go.Proofs.Tryz.sizeOf3
  v3 := Go.Proofs.Tryz.zeroValue3
  t4 := Go.Proofs.Tryz.underlying4
  a4 := Go.Proofs.Tryz.isAgg4
  z4 := Go.Proofs.Tryz.sizeOf4
  v4 := Go.Proofs.Tryz.zeroValue4
  t5 := Go.Proofs.Tryz.underlying5
  a5 := Go.Proofs.Tryz.isAgg5
  z5 := Go.Proofs.Tryz.sizeOf5
  v5 := Go.Proofs.Tryz.zeroValue5
  t9 := Go.Proofs.Tryz.underlying9
  a9 := Go.Proofs.Tryz.isAgg9
  z9 := Go.Proofs.Tryz.sizeOf9
  v9 := Go.Proofs.Tryz.zeroValue9
  t46 := Go.Proofs.Tryz.underlying113
  a46 := Go.Proofs.Tryz.isAgg113
  z46 := Go.Proofs.Tryz.sizeOf113
  v46 := Go.Proofs.Tryz.zeroValue113
  t51 := Go.Proofs.Tryz.underlying142
  a51 := Go.Proofs.Tryz.isAgg142
  z51 := Go.Proofs.Tryz.sizeOf142
  v51 := Go.Proofs.Tryz.zeroValue142
  t59 := Go.Proofs.Tryz.underlying68
  a59 := Go.Proofs.Tryz.isAgg68
  z59 := Go.Proofs.Tryz.sizeOf68
  v59 := Go.Proofs.Tryz.zeroValue68
  t146 := Go.Proofs.Tryz.underlying183
  a146 := Go.Proofs.Tryz.isAgg183
  z146 := Go.Proofs.Tryz.sizeOf183
  v146 := Go.Proofs.Tryz.zeroValue183
  g1 := by kernel_rfl
def Tryz.laysBS_ren : Go.Shelf.Ren := ⟨fun | 169 => 23 | n => n, fun | 70 => 53 | 9 => 9 | 0 => 0 | 72 => 56 | 37 => 54 | 127 => 98 | 3 => 3 | 5 => 5 | n => n, fun n => n⟩
theorem Tryz.laysBS : Go.Proofs.Lays.n169 Go.Proofs.Tryz.prog Tryz.laysBS_ren where
  mixed := by kernel_rfl
  f169 := by kernel_rfl
  t0 := Go.Proofs.Tryz.underlying0
  a0 := Go.Proofs.Tryz.isAgg0
  z0 := Go.Proofs.Tryz.sizeOf0
  v0 := Go.Proofs.Tryz.zeroValue0
  t3 := Go.Proofs.Tryz.underlying3
  a3 := Go.Proofs.Tryz.isAgg3
  z3 := Go.Proofs.Tryz.sizeOf3
  v3 := Go.Proofs.Tryz.zeroValue3
  t9 := Go.Proofs.Tryz.underlying9
  a9 := Go.Proofs.Tryz.isAgg9
  z9 := Go.Proofs.Tryz.sizeOf9
  v9 := Go.Proofs.Tryz.zeroValue9
  t37 := Go.Proofs.Tryz.underlying54
  a37 := Go.Proofs.Tryz.isAgg54
  z37 := Go.Proofs.Tryz.sizeOf54
  v37 := Go.Proofs.Tryz.zeroValue54
  t70 := Go.Proofs.Tryz.underlying53
  a70 := Go.Proofs.Tryz.isAgg53
  z70 := Go.Proofs.Tryz.sizeOf53
  v70 := Go.Proofs.Tryz.zeroValue53
  t72 := Go.Proofs.Tryz.underlying56
  a72 := Go.Proofs.Tryz.isAgg56
  z72 := Go.Proofs.Tryz.sizeOf56
  v72 := Go.Proofs.Tryz.zeroValue56
  t127 := Go.Proofs.Tryz.underlying98
  a127 := Go.Proofs.Tryz.isAgg98
  z127 := Go.Proofs.Tryz.sizeOf98
  v127 := Go.Proofs.Tryz.zeroValue98
def Tryz.laysBL_ren : Go.Shelf.Ren := ⟨fun | 170 => 22 | n => n, fun | 70 => 53 | 3 => 3 | 0 => 0 | 72 => 56 | 37 => 54 | 5 => 5 | n => n, fun n => n⟩
theorem Tryz.laysBL : Go.Proofs.Lays.n170 Go.Proofs.Tryz.prog Tryz.laysBL_ren where
  mixed := by kernel_rfl
  f170 := by kernel_rfl
  t0 := Go.Proofs.Tryz.underlying0
  a0 := Go.Proofs.Tryz.isAgg0
  z0 := Go.Proofs.Tryz.sizeOf0
  v0 := Go.Proofs.Tryz.zeroValue0
  t3 := Go.Proofs.Tryz.underlying3
  a3 := Go.Proofs.Tryz.isAgg3
  z3 := Go.Proofs.Tryz.sizeOf3
  v3 := Go.Proofs.Tryz.zeroValue3
  t37 := Go.Proofs.Tryz.underlying54
  a37 := Go.Proofs.Tryz.isAgg54
  z37 := Go.Proofs.Tryz.sizeOf54
  v37 := Go.Proofs.Tryz.zeroValue54
  t70 := Go.Proofs.Tryz.underlying53
  a70 := Go.Proofs.Tryz.isAgg53
  z70 := Go.Proofs.Tryz.sizeOf53
  v70 := Go.Proofs.Tryz.zeroValue53
  t72 := Go.Proofs.Tryz.underlying56
  a72 := Go.Proofs.Tryz.isAgg56
  z72 := Go.Proofs.Tryz.sizeOf56
  v72 := Go.Proofs.Tryz.zeroValue56
def Tryz.laysJoin_ren : Go.Shelf.Ren := ⟨fun | 156 => 46 | 165 => 72 | 166 => 20 | 169 => 23 | 240 => 47 | 241 => 105 | 276 => 73 | 277 => 142 | n => n, fun | 31 => 75 | 9 => 9 | 3 => 3 | 4 => 4 | 0 => 0 | 20 => 20 | 72 => 56 | 76 => 60 | 70 => 53 | 37 => 54 | 75 => 59 | 127 => 98 | 164 => 116 | 5 => 5 | 80 => 64 | n => n, fun n => n⟩
theorem Tryz.laysJoin : Go.Proofs.Lays.n156 Go.Proofs.Tryz.prog Tryz.laysJoin_ren where
  mixed := by kernel_rfl
  f156 := by kernel_rfl
  f165 := by kernel_rfl
  f166 := by kernel_rfl
  f169 := by kernel_rfl
  f240 := by kernel_rfl
  f241 := by kernel_rfl
  f276 := by kernel_rfl
  f277 := by kernel_rfl
  t0 := Go.Proofs.Tryz.underlying0
  a0 := Go.Proofs.Tryz.isAgg0
  z0 := Go.Proofs.Tryz.sizeOf0
  v0 := Go.Proofs.Tryz.zeroValue0
  t3 := Go.Proofs.Tryz.underlying3
  a3 := Go.Proofs.Tryz.isAgg3
  z3 := Go.Proofs.Tryz.sizeOf3
  v3 := Go.Proofs.Tryz.zeroValue3
  t4 := Go.Proofs.Tryz.underlying4
  a4 := Go.Proofs.Tryz.isAgg4
  z4 := Go.Proofs.Tryz.sizeOf4
  v4 := Go.Proofs.Tryz.zeroValue4
  t9 := Go.Proofs.Tryz.underlying9
  a9 := Go.Proofs.Tryz.isAgg9
  z9 := Go.Proofs.Tryz.sizeOf9
  v9 := Go.Proofs.Tryz.zeroValue9
  t20 := Go.Proofs.Tryz.underlying20
  a20 := Go.Proofs.Tryz.isAgg20
  z20 := Go.Proofs.Tryz.sizeOf20
  v20 := Go.Proofs.Tryz.zeroValue20
  t31 := Go.Proofs.Tryz.underlying75
  a31 := Go.Proofs.Tryz.isAgg75
  z31 := Go.Proofs.Tryz.sizeOf75
  v31 := Go.Proofs.Tryz.zeroValue75
  t37 := Go.Proofs.Tryz.underlying54
  a37 := Go.Proofs.Tryz.isAgg54
  z37 := Go.Proofs.Tryz.sizeOf54
  v37 := Go.Proofs.Tryz.zeroValue54
  t70 := Go.Proofs.Tryz.underlying53
  a70 := Go.Proofs.Tryz.isAgg53
  z70 := Go.Proofs.Tryz.sizeOf53
  v70 := Go.Proofs.Tryz.zeroValue53
  t72 := Go.Proofs.Tryz.underlying56
  a72 := Go.Proofs.Tryz.isAgg56
  z72 := Go.Proofs.Tryz.sizeOf56
  v72 := Go.Proofs.Tryz.zeroValue56
  t75 := Go.Proofs.Tryz.underlying59
  a75 := Go.Proofs.Tryz.isAgg59
  z75 := Go.Proofs.Tryz.sizeOf59
  v75 := Go.Proofs.Tryz.zeroValue59
  t76 := Go.Proofs.Tryz.underlying60
  a76 := Go.Proofs.Tryz.isAgg60
  z76 := Go.Proofs.Tryz.sizeOf60
  v76 := Go.Proofs.Tryz.zeroValue60
  t127 := Go.Proofs.Tryz.underlying98
  a127 := Go.Proofs.Tryz.isAgg98
  z127 := Go.Proofs.Tryz.sizeOf98
  v127 := Go.Proofs.Tryz.zeroValue98
  t164 := Go.Proofs.Tryz.underlying116
  a164 := Go.Proofs.Tryz.isAgg116
  z164 := Go.Proofs.Tryz.sizeOf116
  v164 := Go.Proofs.Tryz.zeroValue116

def Tryz.laysWS_ren : Go.Shelf.Ren := ⟨fun | 166 => 20 | 240 => 47 | 276 => 73 | n => n, fun | 70 => 53 | 72 => 56 | 37 => 54 | 164 => 116 | 3 => 3 | 4 => 4 | 5 => 5 | 20 => 20 | 75 => 59 | 80 => 64 | 9 => 9 | 0 => 0 | n => n, fun n => n⟩
theorem Tryz.laysWS : Lays.n166 Tryz.prog Tryz.laysWS_ren where
  mixed := by kernel_rfl
  f166 := by kernel_rfl
  f240 := by kernel_rfl
  f276 := by kernel_rfl
  t0 := Tryz.underlying0
  a0 := Tryz.isAgg0
  z0 := Tryz.sizeOf0
  v0 := Tryz.zeroValue0
  t3 := Tryz.underlying3
  a3 := Tryz.isAgg3
  z3 := Tryz.sizeOf3
  v3 := Tryz.zeroValue3
  t4 := Tryz.underlying4
  a4 := Tryz.isAgg4
  z4 := Tryz.sizeOf4
  v4 := Tryz.zeroValue4
  t9 := Tryz.underlying9
  a9 := Tryz.isAgg9
  z9 := Tryz.sizeOf9
  v9 := Tryz.zeroValue9
  t20 := Tryz.underlying20
  a20 := Tryz.isAgg20
  z20 := Tryz.sizeOf20
  v20 := Tryz.zeroValue20
  t37 := Tryz.underlying54
  a37 := Tryz.isAgg54
  z37 := Tryz.sizeOf54
  v37 := Tryz.zeroValue54
  t70 := Tryz.underlying53
  a70 := Tryz.isAgg53
  z70 := Tryz.sizeOf53
  v70 := Tryz.zeroValue53
  t72 := Tryz.underlying56
  a72 := Tryz.isAgg56
  z72 := Tryz.sizeOf56
  v72 := Tryz.zeroValue56
  t75 := Tryz.underlying59
  a75 := Tryz.isAgg59
  z75 := Tryz.sizeOf59
  v75 := Tryz.zeroValue59
  t164 := Tryz.underlying116
  a164 := Tryz.isAgg116
  z164 := Tryz.sizeOf116
  v164 := Tryz.zeroValue116

theorem Tryz.extraW : Builder.Extra Tryz.prog Tryz.laysWS_ren where
  sizeBuilder := by kernel_rfl
  liesBuilder := by kernel_rfl
  t5 := Tryz.underlying5
  a5 := Tryz.isAgg5
  z5 := Tryz.sizeOf5
  v5 := Tryz.zeroValue5
  infoByte := by kernel_rfl
  cellsByte := by kernel_rfl
  sizeByte := by kernel_rfl
  neB5 := by decide
theorem Tryz.extraB : Builder.Extra Tryz.prog Tryz.laysBS_ren where
  sizeBuilder := by kernel_rfl
  liesBuilder := by kernel_rfl
  t5 := Tryz.underlying5
  a5 := Tryz.isAgg5
  z5 := Tryz.sizeOf5
  v5 := Tryz.zeroValue5
  infoByte := by kernel_rfl
  cellsByte := by kernel_rfl
  sizeByte := by kernel_rfl
  neB5 := by decide
theorem Tryz.parse_ok (s : ByteArray) (hmax : s.size ≤ 9223372036854775806) (v : Int) (h : Lib.parseIntB 64 s.data.toList = .ok v) (w : World) :
    Calls Tryz.prog 59 #[.string s, .int .i64 10, .int .i64 64] w fun e w' => e = .returned (.tuple #[.int .i64 v, .nilIface]) ∧ Below w.heap.size w w' :=
  (Any.strconv_ParseInt_10_at64_ok Tryz.laysPI s hmax v h w).mono fun _ _ ⟨h1, h2⟩ => ⟨h1, by
    rcases h2 with rfl | ⟨t, rfl⟩
    · exact Below.refl _ _
    · exact Lib.bytesWorld_below _ _ _⟩

theorem Tryz.parse_range (s : ByteArray) (hlim : s.size ≤ 281474976710656) (h : Lib.parseIntB 64 s.data.toList = .range) (ev : Value) (w : World) (hv : w.cell? ⟨3, 0, none⟩ = some ev) (hev : ev = .nilIface ∨ ∃ te pe, ev = .iface te pe) :
    Calls Tryz.prog 59 #[.string s, .int .i64 10, .int .i64 64] w fun e w' => ∃ x te pe, e = .returned (.tuple #[.int .i64 x, .iface te pe]) ∧ Below w.heap.size w w' :=
  (Any.strconv_ParseInt_10_at64_range Tryz.laysPI s hlim h ev w hv hev).mono fun _ _ ⟨_, h1, _, _, h2⟩ => ⟨_, _, _, h1, h2⟩

theorem Tryz.trimp_p (s p : ByteArray) (w : World) :
    Calls Tryz.prog 85 #[.string s, .string p] w fun e w' => e = .returned (.string ⟨(Lib.trimPrefix s.data.toList p.data.toList).toArray⟩) ∧ w = w' :=
  (Any.strings_TrimPrefix Tryz.laysTP s p w).mono fun _ _ ⟨h1, h2⟩ => ⟨h1, h2.symm⟩

theorem Tryz.trim_p (s cutset : ByteArray) (w : World) (hs : s.size ≤ 9223372036854775807) (hcs : cutset.size < 4294967281)
    (hascii : cutset.data.toList.all (fun b => decide (b.toNat < 128)) = true) :
    Calls Tryz.prog 86 #[.string s, .string cutset] w fun e w' => e = .returned (.string ⟨(Lib.trimS s.data.toList cutset.data.toList).toArray⟩) ∧ Below w.heap.size w w' :=
  Any.strings_Trim_laid Tryz.laysTrim (by kernel_rfl) s cutset w hs hcs (ascii_of_all hascii)

theorem Tryz.split_p (s sep : ByteArray) (m : Int) (w : World) (hs : s.size < 4294967281) (hm : w.cell? ⟨0, 0, none⟩ = some (.int .i64 m)) (h1 : 1 ≤ sep.size) :
    Calls Tryz.prog 60 #[.string s, .string sep] w fun e w' =>
      e = .returned (.slice (some ⟨w.heap.size, 0, none⟩) (Lib.countB s sep + 1) (Lib.countB s sep + 1)) ∧ w' = w.alloc (.cells ((Lib.splitB sep 0 (Lib.countB s sep) s).map Value.string).toArray 9) :=
  Any.strings_Split Tryz.laysSplit (by kernel_rfl) s sep m w hs hm h1

theorem Tryz.fmt_p (n : Int) (h0 : -9223372036854775808 ≤ n) (h1 : n ≤ 9223372036854775807) (w : World) (htab : Lib.TabIs Tryz.prog w "internal/strconv.uint64pow10" .u64 Lib.pow10Tab) :
    Calls Tryz.prog 48 #[.int .i64 n, .int .i64 10] w fun e w' => e = .returned (.string ⟨(Lib.itoa n).toArray⟩) ∧ Below w.heap.size w w' :=
  (Any.strconv_FormatInt_10 Tryz.laysFmt n h0 h1 w htab).mono fun _ _ ⟨h1, k, os, h2⟩ => ⟨h1, by
    subst h2
    exact ⟨rfl, rfl, rfl, by show w.heap.size ≤ (w.heap ++ os).size; rw [Array.size_append]; omega, fun j hj => by show (w.heap ++ os)[j]? = w.heap[j]?; exact Array.getElem?_append_left hj⟩⟩
theorem Tryz.ib_p (s : ByteArray) (c : Int) (w : World) :
    Calls Tryz.prog 55 #[.string s, .int .u8 c] w fun e w' => e = .returned (.int .i64 (Lib.indexByte s.data.toList c.toNat.toUInt8)) ∧ w = w' :=
  (Any.strings_IndexByte Tryz.laysIB s c w).mono fun _ _ ⟨h1, h2⟩ => ⟨h1, h2.symm⟩
/-- The builder at block b holds the bytes l. -/
def Bld (B b : Nat) (l : List UInt8) (w : World) : Prop := Lib.IsBuilderF 56 5 B b (Lib.byteCells l) w
theorem Bld.new (w : World) : Bld w.heap.size w.heap.size [] (w.alloc (.cells #[.pointer none, .slice none 0 0] 56)) := Lib.IsBuilderF.of (Lib.fresh_isBuilder _ _ _)
theorem ownF_below {w w' : World} {base B : Nat} {e : TypeId} {size : Nat} {v : Value} {n : Nat} {xs : List Value} (h : w.ownsRowF base e size v n xs) (hb : Below B w w') (hB : w.heap.size ≤ B) : w'.ownsRowF base e size v n xs := by
  refine ⟨h.1, ?_⟩
  rcases h.2 with h2 | ⟨g, cap, cur, fz, hv, hg, hh, r⟩
  · exact .inl h2
  · exact .inr ⟨g, cap, cur, fz, hv, hg, by rw [hb.block g (by have := (Array.getElem?_eq_some_iff.1 hh).1; omega)]; exact hh, r⟩
theorem Bld.to {B b : Nat} {l : List UInt8} {w w' : World} (h : Bld B b l w) (hb : Below w.heap.size w w') : Bld B b l w' := by
  rcases h with ⟨h1, v, h2, h3, h4⟩ | ⟨h1, v, h2, h3, h4⟩
  · exact .inl ⟨h1, v, (hb.block b (Array.getElem?_eq_some_iff.1 h2).1).trans h2, ownF_below h3 hb (Nat.le_refl _), h4⟩
  · exact .inr ⟨h1, v, (hb.block b (Array.getElem?_eq_some_iff.1 h2).1).trans h2, ownF_below h3 hb (Nat.le_refl _), h4⟩
theorem Bld.lt {B b : Nat} {l : List UInt8} {w : World} (h : Bld B b l w) : B ≤ b ∧ b < w.heap.size := by
  rcases h with ⟨h1, v, h2, h3, h4⟩ | ⟨h1, v, h2, h3, h4⟩
  · exact ⟨h1, (Array.getElem?_eq_some_iff.1 h2).1⟩
  · exact ⟨h1, (Array.getElem?_eq_some_iff.1 h2).1⟩
theorem Tryz.ws_p (B b : Nat) (l : List UInt8) (s : ByteArray) (w : World) (h : Bld B b l w) (hlen : l.length + s.size ≤ 140737488355328) (hBw : B ≤ w.heap.size) :
    Calls Tryz.prog 20 #[.pointer (some ⟨b, 0, none⟩), .string s] w fun e w' => e = .returned (.tuple #[.int .i64 s.size, .nilIface]) ∧ Bld B b (l ++ s.data.toList) w' ∧ Below B w w' ∧ Lib.OthersKept 5 (some b) w w' :=
  (Any.Builder_WriteString_k Tryz.laysWS Tryz.extraW B b (Lib.byteCells l) s w h (by simpa [Lib.byteCells] using hlen) hBw).mono fun _ _ ⟨h1, h2, h3⟩ => ⟨h1, .inr (by rw [Lib.byteCells_append]; exact h2), h3⟩
theorem Tryz.bs_p (B b : Nat) (l : List UInt8) (w : World) (h : Bld B b l w) (hBw : B ≤ w.heap.size) :
    Calls Tryz.prog 23 #[.pointer (some ⟨b, 0, none⟩)] w fun e w' => e = .returned (.string ⟨l.toArray⟩) ∧ Below B w w' :=
  (Any.Builder_String_any_k Tryz.laysBS Tryz.extraB B b l w h hBw).mono fun _ _ ⟨h1, h2⟩ => ⟨h1, h2.2.1⟩
theorem Tryz.ts_p (s p : ByteArray) (w : World) (hs : s.size ≤ 9223372036854775807) :
    Calls Tryz.prog 29 #[.string s, .string p] w fun e w' => e = .returned (.string ⟨(Lib.trimSuffix s.data.toList p.data.toList).toArray⟩) ∧ w = w' :=
  (Any.strings_TrimSuffix Tryz.laysTS s p w hs).mono fun _ _ ⟨h1, h2⟩ => ⟨h1, h2.symm⟩

theorem Tryz.cut_p (s sep : ByteArray) (m : Int) (w : World) (hs : s.size < 4294967281) (hm : w.cell? ⟨0, 0, none⟩ = some (.int .i64 m)) :
    Calls Tryz.prog 28 #[.string s, .string sep] w fun e w' => e = .returned (.tuple #[.string ⟨(Lib.cut s.data.toList sep.data.toList).1.toArray⟩, .string ⟨(Lib.cut s.data.toList sep.data.toList).2.1.toArray⟩, .bool (Lib.cut s.data.toList sep.data.toList).2.2]) ∧ Below w.heap.size w w' :=
  (Any.strings_Cut Tryz.laysCut s sep m w hs hm).mono fun _ _ ⟨h1, n, h2⟩ => ⟨h1, by
    subst h2
    exact ⟨rfl, rfl, rfl, Nat.le_refl _, fun _ _ => rfl⟩⟩

theorem Tryz.bl_p (B b : Nat) (l : List UInt8) (w : World) (h : Bld B b l w) :
    Calls Tryz.prog 22 #[.pointer (some ⟨b, 0, none⟩)] w fun e w' => e = .returned (.int .i64 l.length) ∧ w = w' :=
  (Any.Builder_Len_f Tryz.laysBL B b (Lib.byteCells l) w h).mono fun _ _ ⟨h1, h2⟩ => ⟨by rw [h1]; simp [Lib.byteCells], h2.symm⟩
end Go.Proofs.YtdbiihfoafoljaaGreatDoor
