/- MADE BY PROGRAM (Gen.lean): the types and functions of the translation, for the evaluator. -/
import Derived.Test.YtggkgmmhblamfaaGreatDoorTEvA
import Derived.Test.YtggkgmmhblamfaaGreatDoorProg
import Derived.Test.YtggkgmmhblamfaaGreatDoorTEvW
import Derived.KernelRfl
set_option linter.all false
namespace Go.Proofs
open Go.Ev Go.Ev.PT Go.Ev.AV Go.Ev.AD
set_option maxRecDepth 100000
noncomputable def Tryz.y1 : ATy := ⟨1, 8, false, [.nilf], .func⟩
noncomputable def Tryz.y2 : ATy := ⟨1, 8, false, [.int .i64 0], (.int .i64)⟩
noncomputable def Tryz.y3 : ATy := ⟨1, 8, false, [.int .i64 0], (.int .i64)⟩
noncomputable def Tryz.y4 : ATy := ⟨1, 1, false, [.bool false], .bool⟩
noncomputable def Tryz.y5 : ATy := ⟨1, 1, false, [.int .u8 0], (.int .u8)⟩
noncomputable def Tryz.y6 : ATy := ⟨1, 1, false, [.int .u8 0], (.int .u8)⟩
noncomputable def Tryz.y7 : ATy := ⟨4, 24, true, [.int .i64 0, .int .i64 0, .bool false, .int .u8 0], (.struct [(0, 2), (1, 3), (2, 4), (3, 6)])⟩
noncomputable def Tryz.y8 : ATy := ⟨4, 24, true, [.int .i64 0, .int .i64 0, .bool false, .int .u8 0], (.struct [(0, 2), (1, 3), (2, 4), (3, 6)])⟩
noncomputable def Tryz.y9 : ATy := ⟨1, 16, false, [.str []], .str⟩
noncomputable def Tryz.y10 : ATy := ⟨1, 16, false, [.str []], .str⟩
noncomputable def Tryz.y11 : ATy := ⟨1, 16, false, [.str []], .str⟩
noncomputable def Tryz.y12 : ATy := ⟨1, 8, false, [.int .u64 0], (.int .u64)⟩
noncomputable def Tryz.y13 : ATy := ⟨2, 24, true, [.str [], .int .u64 0], (.struct [(0, 9), (1, 12)])⟩
noncomputable def Tryz.y14 : ATy := ⟨2, 24, true, [.str [], .int .u64 0], (.struct [(0, 9), (1, 12)])⟩
noncomputable def Tryz.y15 : ATy := ⟨1, 8, false, [.nilp], (.ptr 416)⟩
noncomputable def Tryz.y16 : ATy := ⟨1, 8, false, [.nilp], (.ptr 419)⟩
noncomputable def Tryz.y17 : ATy := ⟨1, 8, false, [.nilp], (.ptr 426)⟩
noncomputable def Tryz.y18 : ATy := ⟨1, 8, true, [.nilp], (.struct [(0, 17)])⟩
noncomputable def Tryz.y19 : ATy := ⟨1, 8, true, [.nilp], (.struct [(0, 17)])⟩
noncomputable def Tryz.y20 : ATy := ⟨1, 16, false, [.nili], .iface⟩
noncomputable def Tryz.y21 : ATy := ⟨1, 4, false, [.int .i32 0], (.int .i32)⟩
noncomputable def Tryz.y22 : ATy := ⟨1, 24, false, [.nils], (.slice 25)⟩
noncomputable def Tryz.y23 : ATy := ⟨1, 24, true, [.nils], (.struct [(0, 22)])⟩
noncomputable def Tryz.y24 : ATy := ⟨1, 24, true, [.nils], (.struct [(0, 22)])⟩
noncomputable def Tryz.y25 : ATy := ⟨1, 24, false, [.nils], (.slice 3)⟩
noncomputable def Tryz.y26 : ATy := ⟨4, 64, true, [.int .i64 0, .int .i64 0, .nils, .nils], (.struct [(0, 3), (1, 3), (2, 24), (3, 25)])⟩
noncomputable def Tryz.y27 : ATy := ⟨4, 64, true, [.int .i64 0, .int .i64 0, .nils, .nils], (.struct [(0, 3), (1, 3), (2, 24), (3, 25)])⟩
noncomputable def Tryz.y28 : ATy := ⟨1, 8, false, [.nilf], .func⟩
noncomputable def Tryz.y29 : ATy := ⟨1, 8, false, [.int .i64 0], (.int .i64)⟩
noncomputable def Tryz.y31 : ATy := ⟨1, 8, false, [.nilf], .func⟩
noncomputable def Tryz.y32 : ATy := ⟨1, 8, false, [.nilf], .func⟩
noncomputable def Tryz.y34 : ATy := ⟨1, 8, false, [.nilf], .func⟩
noncomputable def Tryz.y35 : ATy := ⟨1, 8, false, [.nilf], .func⟩
noncomputable def Tryz.y36 : ATy := ⟨1, 8, false, [.nilf], .func⟩
noncomputable def Tryz.y37 : ATy := ⟨1, 8, false, [.nilf], .func⟩
noncomputable def Tryz.y39 : ATy := ⟨1, 8, false, [.nilf], .func⟩
noncomputable def Tryz.y40 : ATy := ⟨3, 56, true, [.nils, .nils, .int .i64 0], (.struct [(0, 25), (1, 25), (2, 3)])⟩
noncomputable def Tryz.y41 : ATy := ⟨3, 56, true, [.nils, .nils, .int .i64 0], (.struct [(0, 25), (1, 25), (2, 3)])⟩
noncomputable def Tryz.y42 : ATy := ⟨1, 8, false, [.nilf], .func⟩
noncomputable def Tryz.y43 : ATy := ⟨1, 8, false, [.nilf], .func⟩
noncomputable def Tryz.y44 : ATy := ⟨1, 8, false, [.nilf], .func⟩
noncomputable def Tryz.y45 : ATy := ⟨1, 8, false, [.nilf], .func⟩
noncomputable def Tryz.y46 : ATy := ⟨1, 8, false, [.nilf], .func⟩
noncomputable def Tryz.y47 : ATy := ⟨1, 8, false, [.nilf], .func⟩
noncomputable def Tryz.y49 : ATy := ⟨1, 8, false, [.nilf], .func⟩
noncomputable def Tryz.y51 : ATy := ⟨1, 8, false, [.nilf], .func⟩
noncomputable def Tryz.y52 : ATy := ⟨1, 24, false, [.nils], (.slice 9)⟩
noncomputable def Tryz.y53 : ATy := ⟨1, 8, false, [.nilf], .func⟩
noncomputable def Tryz.y54 : ATy := ⟨1, 16, false, [.nili], .iface⟩
noncomputable def Tryz.y55 : ATy := ⟨1, 16, false, [.nili], .iface⟩
noncomputable def Tryz.y57 : ATy := ⟨1, 8, false, [.nilf], .func⟩
noncomputable def Tryz.y58 : ATy := ⟨1, 8, false, [.nilf], .func⟩
noncomputable def Tryz.y59 : ATy := ⟨1, 8, false, [.nilf], .func⟩
noncomputable def Tryz.y60 : ATy := ⟨1, 8, false, [.nilf], .func⟩
noncomputable def Tryz.y61 : ATy := ⟨1, 8, false, [.nilf], .func⟩
noncomputable def Tryz.y62 : ATy := ⟨1, 8, false, [.nilf], .func⟩
noncomputable def Tryz.y63 : ATy := ⟨1, 8, false, [.nilf], .func⟩
noncomputable def Tryz.y64 : ATy := ⟨1, 8, false, [.nilf], .func⟩
noncomputable def Tryz.y65 : ATy := ⟨1, 8, false, [.nilf], .func⟩
noncomputable def Tryz.y66 : ATy := ⟨1, 8, false, [.nilf], .func⟩
noncomputable def Tryz.y67 : ATy := ⟨1, 8, false, [.nilf], .func⟩
noncomputable def Tryz.y68 : ATy := ⟨1, 8, false, [.nilf], .func⟩
noncomputable def Tryz.y70 : ATy := ⟨1, 8, false, [.nilf], .func⟩
noncomputable def Tryz.y71 : ATy := ⟨1, 8, false, [.nilf], .func⟩
noncomputable def Tryz.y72 : ATy := ⟨1, 24, false, [.nils], (.slice 109)⟩
noncomputable def Tryz.y73 : ATy := ⟨3, 56, true, [.int .i64 0, .nils, .nils], (.struct [(0, 3), (1, 25), (2, 72)])⟩
noncomputable def Tryz.y74 : ATy := ⟨3, 56, true, [.int .i64 0, .nils, .nils], (.struct [(0, 3), (1, 25), (2, 72)])⟩
noncomputable def Tryz.y76 : ATy := ⟨1, 8, false, [.nilf], .func⟩
noncomputable def Tryz.y77 : ATy := ⟨1, 8, false, [.nilf], .func⟩
noncomputable def Tryz.y78 : ATy := ⟨1, 8, false, [.nilf], .func⟩
noncomputable def Tryz.y79 : ATy := ⟨1, 8, false, [.nilf], .func⟩
noncomputable def Tryz.y80 : ATy := ⟨9, 144, true, [.str [], .str [], .str [], .str [], .str [], .str [], .str [], .str [], .str []], (.array 9 9)⟩
noncomputable def Tryz.y81 : ATy := ⟨1, 8, false, [.nilf], .func⟩
noncomputable def Tryz.y82 : ATy := ⟨1, 8, false, [.nilf], .func⟩
noncomputable def Tryz.y83 : ATy := ⟨1, 8, false, [.nilf], .func⟩
noncomputable def Tryz.y84 : ATy := ⟨1, 8, false, [.nilf], .func⟩
noncomputable def Tryz.y85 : ATy := ⟨1, 8, false, [.nilf], .func⟩
noncomputable def Tryz.y86 : ATy := ⟨1, 8, false, [.nilf], .func⟩
noncomputable def Tryz.y87 : ATy := ⟨1, 8, false, [.nilf], .func⟩
noncomputable def Tryz.y88 : ATy := ⟨1, 8, false, [.nilp], (.ptr 91)⟩
noncomputable def Tryz.y89 : ATy := ⟨1, 24, false, [.nils], (.slice 5)⟩
noncomputable def Tryz.y90 : ATy := ⟨2, 32, true, [.nilp, .nils], (.struct [(0, 88), (1, 89)])⟩
noncomputable def Tryz.y91 : ATy := ⟨2, 32, true, [.nilp, .nils], (.struct [(0, 88), (1, 89)])⟩
noncomputable def Tryz.y92 : ATy := ⟨1, 8, false, [.nilf], .func⟩
noncomputable def Tryz.y93 : ATy := ⟨1, 8, false, [.nilf], .func⟩
noncomputable def Tryz.y94 : ATy := ⟨1, 8, false, [.nilf], .func⟩
noncomputable def Tryz.y95 : ATy := ⟨1, 8, false, [.nilf], .func⟩
noncomputable def Tryz.y96 : ATy := ⟨1, 8, false, [.nilf], .func⟩
noncomputable def Tryz.y97 : ATy := ⟨1, 8, false, [.nilf], .func⟩
noncomputable def Tryz.y99 : ATy := ⟨1, 8, false, [.nilf], .func⟩
noncomputable def Tryz.y100 : ATy := ⟨1, 8, false, [.nilf], .func⟩
noncomputable def Tryz.y101 : ATy := ⟨1, 24, false, [.nils], (.slice 161)⟩
noncomputable def Tryz.y102 : ATy := ⟨4, 80, true, [.nils, .int .i64 0, .nils, .nils], (.struct [(0, 101), (1, 3), (2, 22), (3, 22)])⟩
noncomputable def Tryz.y103 : ATy := ⟨4, 80, true, [.nils, .int .i64 0, .nils, .nils], (.struct [(0, 101), (1, 3), (2, 22), (3, 22)])⟩
noncomputable def Tryz.y105 : ATy := ⟨1, 8, false, [.nilf], .func⟩
noncomputable def Tryz.y106 : ATy := ⟨1, 8, false, [.nilf], .func⟩
noncomputable def Tryz.y108 : ATy := ⟨1, 8, false, [.nilf], .func⟩
noncomputable def Tryz.y109 : ATy := ⟨1, 24, false, [.nils], (.slice 3)⟩
noncomputable def Tryz.y110 : ATy := ⟨1, 8, false, [.nilf], .func⟩
noncomputable def Tryz.y111 : ATy := ⟨1, 8, false, [.nilf], .func⟩
noncomputable def Tryz.y112 : ATy := ⟨1, 24, false, [.nils], (.slice 175)⟩
noncomputable def Tryz.y113 : ATy := ⟨1, 8, false, [.nilf], .func⟩
noncomputable def Tryz.y114 : ATy := ⟨1, 24, false, [.nils], (.slice 185)⟩
noncomputable def Tryz.y115 : ATy := ⟨2, 32, true, [.bool false, .nils], (.struct [(0, 4), (1, 114)])⟩
noncomputable def Tryz.y116 : ATy := ⟨2, 32, true, [.bool false, .nils], (.struct [(0, 4), (1, 114)])⟩
noncomputable def Tryz.y118 : ATy := ⟨1, 8, false, [.nilf], .func⟩
noncomputable def Tryz.y119 : ATy := ⟨1, 8, false, [.nilf], .func⟩
noncomputable def Tryz.y120 : ATy := ⟨1, 24, false, [.nils], (.slice 197)⟩
noncomputable def Tryz.y121 : ATy := ⟨2, 32, true, [.bool false, .nils], (.struct [(0, 4), (1, 120)])⟩
noncomputable def Tryz.y122 : ATy := ⟨2, 32, true, [.bool false, .nils], (.struct [(0, 4), (1, 120)])⟩
noncomputable def Tryz.y124 : ATy := ⟨1, 8, false, [.nilf], .func⟩
noncomputable def Tryz.y125 : ATy := ⟨1, 8, false, [.nilf], .func⟩
noncomputable def Tryz.y126 : ATy := ⟨1, 24, false, [.nils], (.slice 208)⟩
noncomputable def Tryz.y127 : ATy := ⟨1, 24, false, [.nils], (.slice 208)⟩
noncomputable def Tryz.y129 : ATy := ⟨1, 8, false, [.nilf], .func⟩
noncomputable def Tryz.y130 : ATy := ⟨1, 8, false, [.nilf], .func⟩
noncomputable def Tryz.y131 : ATy := ⟨1, 8, false, [.nilf], .func⟩
noncomputable def Tryz.y132 : ATy := ⟨1, 8, false, [.nilf], .func⟩
noncomputable def Tryz.y133 : ATy := ⟨30, 30, true, [.bool false, .bool false, .bool false, .bool false, .bool false, .bool false, .bool false, .bool false, .bool false, .bool false, .bool false, .bool false, .bool false, .bool false, .bool false, .bool false, .bool false, .bool false, .bool false, .bool false, .bool false, .bool false, .bool false, .bool false, .bool false, .bool false, .bool false, .bool false, .bool false, .bool false], (.array 30 4)⟩
noncomputable def Tryz.y134 : ATy := ⟨1, 8, false, [.nilf], .func⟩
noncomputable def Tryz.y135 : ATy := ⟨1, 8, false, [.nilf], .func⟩
noncomputable def Tryz.y136 : ATy := ⟨1, 8, false, [.nilf], .func⟩
noncomputable def Tryz.y137 : ATy := ⟨1, 8, false, [.int .i64 0], (.int .i64)⟩
noncomputable def Tryz.y139 : ATy := ⟨1, 8, false, [.nilf], .func⟩
noncomputable def Tryz.y140 : ATy := ⟨1, 8, false, [.nilp], (.ptr 225)⟩
noncomputable def Tryz.y141 : ATy := ⟨1, 8, false, [.nilf], .func⟩
noncomputable def Tryz.y142 : ATy := ⟨1, 8, false, [.nilf], .func⟩
noncomputable def Tryz.y143 : ATy := ⟨1, 8, false, [.nilp], (.ptr 5)⟩
noncomputable def Tryz.y144 : ATy := ⟨1, 24, false, [.nils], (.slice 4)⟩
noncomputable def Tryz.y145 : ATy := ⟨1, 8, false, [.nilf], .func⟩
noncomputable def Tryz.y146 : ATy := ⟨1, 8, false, [.nilf], .func⟩
noncomputable def Tryz.y147 : ATy := ⟨1, 8, false, [.nilf], .func⟩
noncomputable def Tryz.y148 : ATy := ⟨1, 8, false, [.nilm], (.map 3 151)⟩
noncomputable def Tryz.y149 : ATy := ⟨1, 8, false, [.nilf], .func⟩
noncomputable def Tryz.y150 : ATy := ⟨1, 8, false, [.nilf], .func⟩
noncomputable def Tryz.y151 : ATy := ⟨2, 16, true, [.int .i64 0, .int .i64 0], (.array 2 3)⟩
noncomputable def Tryz.y152 : ATy := ⟨1, 8, false, [.nilf], .func⟩
noncomputable def Tryz.y153 : ATy := ⟨1, 8, false, [.nilf], .func⟩
noncomputable def Tryz.y154 : ATy := ⟨1, 8, false, [.int .u64 0], (.int .u64)⟩
noncomputable def Tryz.y156 : ATy := ⟨1, 8, false, [.nilf], .func⟩
noncomputable def Tryz.y158 : ATy := ⟨1, 8, false, [.nilf], .func⟩
noncomputable def Tryz.y159 : ATy := ⟨1, 8, false, [.nilf], .func⟩
noncomputable def Tryz.y160 : ATy := ⟨3, 24, true, [.int .i64 0, .int .i64 0, .int .i64 0], (.struct [(0, 3), (1, 3), (2, 3)])⟩
noncomputable def Tryz.y161 : ATy := ⟨3, 24, true, [.int .i64 0, .int .i64 0, .int .i64 0], (.struct [(0, 3), (1, 3), (2, 3)])⟩
noncomputable def Tryz.y162 : ATy := ⟨1, 8, false, [.nilm], (.map 9 3)⟩
noncomputable def Tryz.y164 : ATy := ⟨1, 8, false, [.nilf], .func⟩
noncomputable def Tryz.y165 : ATy := ⟨1, 8, false, [.nilp], (.ptr 101)⟩
noncomputable def Tryz.y166 : ATy := ⟨1, 8, false, [.nilf], .func⟩
noncomputable def Tryz.y167 : ATy := ⟨1, 8, false, [.nilm], (.map 3 3)⟩
noncomputable def Tryz.y169 : ATy := ⟨1, 8, false, [.nilf], .func⟩
noncomputable def Tryz.y170 : ATy := ⟨1, 8, false, [.nilf], .func⟩
noncomputable def Tryz.y172 : ATy := ⟨1, 8, false, [.nilf], .func⟩
noncomputable def Tryz.y173 : ATy := ⟨1, 24, false, [.nils], (.slice 72)⟩
noncomputable def Tryz.y174 : ATy := ⟨1, 8, false, [.nilf], .func⟩
noncomputable def Tryz.y175 : ATy := ⟨1, 24, false, [.nils], (.slice 3)⟩
noncomputable def Tryz.y176 : ATy := ⟨1, 8, false, [.nilf], .func⟩
noncomputable def Tryz.y177 : ATy := ⟨1, 8, false, [.nilf], .func⟩
noncomputable def Tryz.y178 : ATy := ⟨1, 8, false, [.nilf], .func⟩
noncomputable def Tryz.y179 : ATy := ⟨1, 8, false, [.nilf], .func⟩
noncomputable def Tryz.y180 : ATy := ⟨1, 8, false, [.nilf], .func⟩
noncomputable def Tryz.y181 : ATy := ⟨1, 8, false, [.nilf], .func⟩
noncomputable def Tryz.y182 : ATy := ⟨1, 8, false, [.nilf], .func⟩
noncomputable def Tryz.y183 : ATy := ⟨1, 8, false, [.nilf], .func⟩
noncomputable def Tryz.y184 : ATy := ⟨2, 16, true, [.int .i64 0, .int .i64 0], (.struct [(0, 3), (1, 3)])⟩
noncomputable def Tryz.y185 : ATy := ⟨2, 16, true, [.int .i64 0, .int .i64 0], (.struct [(0, 3), (1, 3)])⟩
noncomputable def Tryz.y186 : ATy := ⟨1, 8, false, [.nilf], .func⟩
noncomputable def Tryz.y187 : ATy := ⟨1, 8, false, [.nilm], (.map 3 122)⟩
noncomputable def Tryz.y188 : ATy := ⟨1, 8, false, [.nilf], .func⟩
noncomputable def Tryz.y190 : ATy := ⟨1, 8, false, [.nilf], .func⟩
noncomputable def Tryz.y191 : ATy := ⟨1, 8, false, [.nilf], .func⟩
noncomputable def Tryz.y192 : ATy := ⟨1, 8, false, [.nilf], .func⟩
noncomputable def Tryz.y194 : ATy := ⟨1, 8, false, [.nilf], .func⟩
noncomputable def Tryz.y195 : ATy := ⟨1, 8, false, [.nilf], .func⟩
noncomputable def Tryz.y196 : ATy := ⟨3, 24, true, [.int .i64 0, .int .i64 0, .int .i64 0], (.struct [(0, 3), (1, 3), (2, 3)])⟩
noncomputable def Tryz.y197 : ATy := ⟨3, 24, true, [.int .i64 0, .int .i64 0, .int .i64 0], (.struct [(0, 3), (1, 3), (2, 3)])⟩
noncomputable def Tryz.y198 : ATy := ⟨1, 8, false, [.nilf], .func⟩
noncomputable def Tryz.y199 : ATy := ⟨1, 8, false, [.nilp], (.ptr 271)⟩
noncomputable def Tryz.y200 : ATy := ⟨1, 8, false, [.nilf], .func⟩
noncomputable def Tryz.y201 : ATy := ⟨1, 8, false, [.nilm], (.map 151 3)⟩
noncomputable def Tryz.y202 : ATy := ⟨1, 24, false, [.nils], (.slice 41)⟩
noncomputable def Tryz.y203 : ATy := ⟨1, 8, false, [.nilf], .func⟩
noncomputable def Tryz.y205 : ATy := ⟨1, 8, false, [.nilf], .func⟩
noncomputable def Tryz.y206 : ATy := ⟨1, 8, false, [.nilf], .func⟩
noncomputable def Tryz.y207 : ATy := ⟨3, 24, true, [.int .i64 0, .int .i64 0, .int .i64 0], (.struct [(0, 3), (1, 3), (2, 3)])⟩
noncomputable def Tryz.y208 : ATy := ⟨3, 24, true, [.int .i64 0, .int .i64 0, .int .i64 0], (.struct [(0, 3), (1, 3), (2, 3)])⟩
noncomputable def Tryz.y209 : ATy := ⟨1, 8, false, [.nilf], .func⟩
noncomputable def Tryz.y210 : ATy := ⟨1, 8, false, [.nilf], .func⟩
noncomputable def Tryz.y211 : ATy := ⟨1, 8, false, [.nilf], .func⟩
noncomputable def Tryz.y212 : ATy := ⟨24, 24, true, [.int .u8 0, .int .u8 0, .int .u8 0, .int .u8 0, .int .u8 0, .int .u8 0, .int .u8 0, .int .u8 0, .int .u8 0, .int .u8 0, .int .u8 0, .int .u8 0, .int .u8 0, .int .u8 0, .int .u8 0, .int .u8 0, .int .u8 0, .int .u8 0, .int .u8 0, .int .u8 0, .int .u8 0, .int .u8 0, .int .u8 0, .int .u8 0], (.array 24 5)⟩
noncomputable def Tryz.y213 : ATy := ⟨1, 8, false, [.int .u64 0], (.int .u64)⟩
noncomputable def Tryz.y214 : ATy := ⟨1, 8, false, [.nilf], .func⟩
noncomputable def Tryz.y215 : ATy := ⟨1, 8, false, [.nilf], .func⟩
noncomputable def Tryz.y217 : ATy := ⟨1, 8, false, [.nilf], .func⟩
noncomputable def Tryz.y218 : ATy := ⟨1, 8, false, [.nilf], .func⟩
noncomputable def Tryz.y220 : ATy := ⟨1, 8, false, [.nilf], .func⟩
noncomputable def Tryz.y221 : ATy := ⟨1, 8, false, [.nilf], .func⟩
noncomputable def Tryz.y223 : ATy := ⟨1, 8, false, [.nilf], .func⟩
noncomputable def Tryz.y224 : ATy := ⟨3, 48, true, [.str [], .str [], .nili], (.struct [(0, 9), (1, 9), (2, 55)])⟩
noncomputable def Tryz.y225 : ATy := ⟨3, 48, true, [.str [], .str [], .nili], (.struct [(0, 9), (1, 9), (2, 55)])⟩
noncomputable def Tryz.y226 : ATy := ⟨1, 8, false, [.nilf], .func⟩
noncomputable def Tryz.y227 : ATy := ⟨1, 8, false, [.nilp], .uptr⟩
noncomputable def Tryz.y228 : ATy := ⟨1, 8, false, [.nilf], .func⟩
noncomputable def Tryz.y229 : ATy := ⟨1, 8, false, [.nilf], .func⟩
noncomputable def Tryz.y230 : ATy := ⟨1, 8, false, [.nilf], .func⟩
noncomputable def Tryz.y231 : ATy := ⟨1, 8, false, [.nilf], .func⟩
noncomputable def Tryz.y232 : ATy := ⟨1, 8, false, [.int .i64 0], (.int .i64)⟩
noncomputable def Tryz.y234 : ATy := ⟨1, 8, false, [.nilf], .func⟩
noncomputable def Tryz.y235 : ATy := ⟨1, 8, false, [.nilf], .func⟩
noncomputable def Tryz.y236 : ATy := ⟨1, 8, false, [.nilf], .func⟩
noncomputable def Tryz.y237 : ATy := ⟨1, 8, false, [.nilf], .func⟩
noncomputable def Tryz.y238 : ATy := ⟨1, 8, false, [.nilf], .func⟩
noncomputable def Tryz.y239 : ATy := ⟨1, 8, false, [.nilf], .func⟩
noncomputable def Tryz.y240 : ATy := ⟨1, 4, false, [.int .u32 0], (.int .u32)⟩
noncomputable def Tryz.y242 : ATy := ⟨1, 8, false, [.nilf], .func⟩
noncomputable def Tryz.y243 : ATy := ⟨1, 8, false, [.nilf], .func⟩
noncomputable def Tryz.y244 : ATy := ⟨1, 8, false, [.nilf], .func⟩
noncomputable def Tryz.y245 : ATy := ⟨1, 8, false, [.nilf], .func⟩
noncomputable def Tryz.y246 : ATy := ⟨1, 8, false, [.nilf], .func⟩
noncomputable def Tryz.y247 : ATy := ⟨3, 24, true, [.int .i64 0, .int .i64 0, .int .i64 0], (.array 3 3)⟩
noncomputable def Tryz.y248 : ATy := ⟨1, 8, false, [.nilf], .func⟩
noncomputable def Tryz.y249 : ATy := ⟨1, 8, false, [.nilf], .func⟩
noncomputable def Tryz.y250 : ATy := ⟨1, 8, false, [.nilf], .func⟩
noncomputable def Tryz.y251 : ATy := ⟨1, 8, false, [.nilf], .func⟩
noncomputable def Tryz.y252 : ATy := ⟨1, 8, false, [.nilf], .func⟩
noncomputable def Tryz.y253 : ATy := ⟨1, 8, false, [.nilf], .func⟩
noncomputable def Tryz.y254 : ATy := ⟨1, 8, false, [.nilf], .func⟩
noncomputable def Tryz.y255 : ATy := ⟨1, 8, false, [.nilf], .func⟩
noncomputable def Tryz.y256 : ATy := ⟨1, 8, false, [.nilf], .func⟩
noncomputable def Tryz.y258 : ATy := ⟨1, 8, false, [.nilf], .func⟩
noncomputable def Tryz.y259 : ATy := ⟨1, 8, false, [.nilf], .func⟩
noncomputable def Tryz.y260 : ATy := ⟨1, 8, false, [.nilf], .func⟩
noncomputable def Tryz.y261 : ATy := ⟨1, 8, false, [.nilf], .func⟩
noncomputable def Tryz.y262 : ATy := ⟨1, 8, false, [.nilf], .func⟩
noncomputable def Tryz.y263 : ATy := ⟨1, 8, false, [.nilf], .func⟩
noncomputable def Tryz.y265 : ATy := ⟨1, 8, false, [.nilf], .func⟩
noncomputable def Tryz.y266 : ATy := ⟨1, 8, false, [.nilf], .func⟩
noncomputable def Tryz.y267 : ATy := ⟨1, 8, false, [.nilf], .func⟩
noncomputable def Tryz.y268 : ATy := ⟨26, 208, true, [.int .i64 0, .int .i64 0, .int .i64 0, .int .i64 0, .int .i64 0, .int .i64 0, .int .i64 0, .int .i64 0, .int .i64 0, .int .i64 0, .int .i64 0, .int .i64 0, .int .i64 0, .int .i64 0, .int .i64 0, .int .i64 0, .int .i64 0, .int .i64 0, .int .i64 0, .int .i64 0, .int .i64 0, .int .i64 0, .int .i64 0, .int .i64 0, .int .i64 0, .int .i64 0], (.array 26 3)⟩
noncomputable def Tryz.y272 : ATy := ⟨1, 8, false, [.nilf], .func⟩
noncomputable def Tryz.y274 : ATy := ⟨1, 8, false, [.nilf], .func⟩
noncomputable def Tryz.y275 : ATy := ⟨1, 8, false, [.nilf], .func⟩
noncomputable def Tryz.y276 : ATy := ⟨1, 24, false, [.nils], (.slice 279)⟩
noncomputable def Tryz.y277 : ATy := ⟨1, 8, false, [.nilf], .func⟩
noncomputable def Tryz.y278 : ATy := ⟨2, 32, true, [.int .i64 0, .nils], (.struct [(0, 3), (1, 22)])⟩
noncomputable def Tryz.y279 : ATy := ⟨2, 32, true, [.int .i64 0, .nils], (.struct [(0, 3), (1, 22)])⟩
noncomputable def Tryz.y280 : ATy := ⟨1, 8, false, [.nilf], .func⟩
noncomputable def Tryz.y281 : ATy := ⟨1, 8, false, [.nilf], .func⟩
noncomputable def Tryz.y282 : ATy := ⟨1, 8, false, [.nilf], .func⟩
noncomputable def Tryz.y283 : ATy := ⟨20, 160, true, [.int .u64 0, .int .u64 0, .int .u64 0, .int .u64 0, .int .u64 0, .int .u64 0, .int .u64 0, .int .u64 0, .int .u64 0, .int .u64 0, .int .u64 0, .int .u64 0, .int .u64 0, .int .u64 0, .int .u64 0, .int .u64 0, .int .u64 0, .int .u64 0, .int .u64 0, .int .u64 0], (.array 20 213)⟩
noncomputable def Tryz.y284 : ATy := ⟨65, 65, true, [.int .u8 0, .int .u8 0, .int .u8 0, .int .u8 0, .int .u8 0, .int .u8 0, .int .u8 0, .int .u8 0, .int .u8 0, .int .u8 0, .int .u8 0, .int .u8 0, .int .u8 0, .int .u8 0, .int .u8 0, .int .u8 0, .int .u8 0, .int .u8 0, .int .u8 0, .int .u8 0, .int .u8 0, .int .u8 0, .int .u8 0, .int .u8 0, .int .u8 0, .int .u8 0, .int .u8 0, .int .u8 0, .int .u8 0, .int .u8 0, .int .u8 0, .int .u8 0, .int .u8 0, .int .u8 0, .int .u8 0, .int .u8 0, .int .u8 0, .int .u8 0, .int .u8 0, .int .u8 0, .int .u8 0, .int .u8 0, .int .u8 0, .int .u8 0, .int .u8 0, .int .u8 0, .int .u8 0, .int .u8 0, .int .u8 0, .int .u8 0, .int .u8 0, .int .u8 0, .int .u8 0, .int .u8 0, .int .u8 0, .int .u8 0, .int .u8 0, .int .u8 0, .int .u8 0, .int .u8 0, .int .u8 0, .int .u8 0, .int .u8 0, .int .u8 0, .int .u8 0], (.array 65 5)⟩
noncomputable def Tryz.y286 : ATy := ⟨1, 8, false, [.nilf], .func⟩
noncomputable def Tryz.y287 : ATy := ⟨1, 8, false, [.nilf], .func⟩
noncomputable def Tryz.y288 : ATy := ⟨1, 8, false, [.nilp], (.ptr 290)⟩
noncomputable def Tryz.y289 : ATy := ⟨1, 16, true, [.str []], (.struct [(0, 9)])⟩
noncomputable def Tryz.y290 : ATy := ⟨1, 16, true, [.str []], (.struct [(0, 9)])⟩
noncomputable def Tryz.y291 : ATy := ⟨1, 8, false, [.int .u64 0], (.int .u64)⟩
noncomputable def Tryz.y292 : ATy := ⟨1, 8, false, [.nilf], .func⟩
noncomputable def Tryz.y293 : ATy := ⟨1, 8, false, [.nilf], .func⟩
noncomputable def Tryz.y294 : ATy := ⟨1, 8, false, [.nilf], .func⟩
noncomputable def Tryz.y295 : ATy := ⟨1, 8, false, [.nilp], (.ptr 3)⟩
noncomputable def Tryz.y296 : ATy := ⟨1, 8, false, [.nilf], .func⟩
noncomputable def Tryz.y297 : ATy := ⟨1, 8, false, [.nilf], .func⟩
noncomputable def Tryz.y298 : ATy := ⟨1, 24, false, [.nils], (.slice 301)⟩
noncomputable def Tryz.y299 : ATy := ⟨1, 8, false, [.nilf], .func⟩
noncomputable def Tryz.y300 : ATy := ⟨1, 8, false, [.nilf], .func⟩
noncomputable def Tryz.y301 : ATy := ⟨1, 24, false, [.nils], (.slice 213)⟩
noncomputable def Tryz.y302 : ATy := ⟨1, 8, false, [.nilf], .func⟩
noncomputable def Tryz.y303 : ATy := ⟨1, 8, false, [.nilf], .func⟩
noncomputable def Tryz.y304 : ATy := ⟨1, 8, false, [.nilf], .func⟩
noncomputable def Tryz.y305 : ATy := ⟨1, 8, false, [.nilf], .func⟩
noncomputable def Tryz.y306 : ATy := ⟨1, 8, false, [.nilf], .func⟩
noncomputable def Tryz.y307 : ATy := ⟨1, 8, false, [.nilf], .func⟩
noncomputable def Tryz.y308 : ATy := ⟨1, 8, false, [.nilf], .func⟩
noncomputable def Tryz.y309 : ATy := ⟨1, 8, false, [.nilf], .func⟩
noncomputable def Tryz.y310 : ATy := ⟨1, 8, false, [.nilf], .func⟩
noncomputable def Tryz.y311 : ATy := ⟨1, 8, false, [.nilf], .func⟩
noncomputable def Tryz.y312 : ATy := ⟨1, 8, false, [.nilf], .func⟩
noncomputable def Tryz.y313 : ATy := ⟨2, 32, true, [.int .i64 0, .nils], (.struct [(0, 3), (1, 25)])⟩
noncomputable def Tryz.y314 : ATy := ⟨2, 32, true, [.int .i64 0, .nils], (.struct [(0, 3), (1, 25)])⟩
noncomputable def Tryz.y315 : ATy := ⟨1, 8, false, [.nilm], (.map 9 314)⟩
noncomputable def Tryz.y316 : ATy := ⟨4, 80, true, [.int .i64 0, .nils, .nils, .nils], (.struct [(0, 3), (1, 25), (2, 25), (3, 25)])⟩
noncomputable def Tryz.y317 : ATy := ⟨4, 80, true, [.int .i64 0, .nils, .nils, .nils], (.struct [(0, 3), (1, 25), (2, 25), (3, 25)])⟩
noncomputable def Tryz.y318 : ATy := ⟨1, 8, false, [.nilf], .func⟩
noncomputable def Tryz.y320 : ATy := ⟨1, 8, false, [.nilf], .func⟩
noncomputable def Tryz.y321 : ATy := ⟨1, 8, false, [.nilf], .func⟩
noncomputable def Tryz.y322 : ATy := ⟨1, 8, false, [.nilf], .func⟩
noncomputable def Tryz.y323 : ATy := ⟨1, 8, false, [.nilf], .func⟩
noncomputable def Tryz.y324 : ATy := ⟨1, 8, false, [.nilf], .func⟩
noncomputable def Tryz.y325 : ATy := ⟨1, 24, false, [.nils], (.slice 328)⟩
noncomputable def Tryz.y326 : ATy := ⟨1, 8, false, [.nilf], .func⟩
noncomputable def Tryz.y327 : ATy := ⟨2, 16, true, [.int .u64 0, .int .u64 0], (.struct [(0, 213), (1, 213)])⟩
noncomputable def Tryz.y328 : ATy := ⟨2, 16, true, [.int .u64 0, .int .u64 0], (.struct [(0, 213), (1, 213)])⟩
noncomputable def Tryz.y329 : ATy := ⟨1, 8, false, [.nilf], .func⟩
noncomputable def Tryz.y330 : ATy := ⟨1, 8, false, [.nilf], .func⟩
noncomputable def Tryz.y331 : ATy := ⟨1, 8, false, [.nilf], .func⟩
noncomputable def Tryz.y332 : ATy := ⟨1, 8, false, [.nilf], .func⟩
noncomputable def Tryz.y333 : ATy := ⟨1, 8, false, [.nilm], (.map 3 4)⟩
noncomputable def Tryz.y334 : ATy := ⟨1, 8, false, [.nilf], .func⟩
noncomputable def Tryz.y335 : ATy := ⟨1, 8, false, [.nilf], .func⟩
noncomputable def Tryz.y336 : ATy := ⟨1, 8, false, [.nilm], (.map 151 338)⟩
noncomputable def Tryz.y337 : ATy := ⟨2, 16, true, [.int .i64 0, .int .i64 0], (.struct [(0, 3), (1, 3)])⟩
noncomputable def Tryz.y338 : ATy := ⟨2, 16, true, [.int .i64 0, .int .i64 0], (.struct [(0, 3), (1, 3)])⟩
noncomputable def Tryz.y339 : ATy := ⟨1, 8, false, [.nilf], .func⟩
noncomputable def Tryz.y340 : ATy := ⟨1, 8, false, [.nilf], .func⟩
noncomputable def Tryz.y341 : ATy := ⟨1, 8, false, [.nilf], .func⟩
noncomputable def Tryz.y342 : ATy := ⟨1, 8, false, [.nilf], .func⟩
noncomputable def Tryz.y343 : ATy := ⟨1, 8, false, [.nilf], .func⟩
noncomputable def Tryz.y344 : ATy := ⟨1, 8, false, [.nilf], .func⟩
noncomputable def Tryz.y345 : ATy := ⟨1, 8, false, [.nilm], (.map 3 25)⟩
noncomputable def Tryz.y346 : ATy := ⟨1, 8, false, [.nilf], .func⟩
noncomputable def Tryz.y348 : ATy := ⟨1, 8, false, [.nilf], .func⟩
noncomputable def Tryz.y349 : ATy := ⟨1, 8, false, [.nilf], .func⟩
noncomputable def Tryz.y350 : ATy := ⟨1, 8, false, [.nilf], .func⟩
noncomputable def Tryz.y351 : ATy := ⟨1, 8, false, [.nilf], .func⟩
noncomputable def Tryz.y352 : ATy := ⟨1, 8, false, [.nilf], .func⟩
noncomputable def Tryz.y353 : ATy := ⟨1, 8, false, [.nilf], .func⟩
noncomputable def Tryz.y355 : ATy := ⟨2, 2, true, [.int .u8 0, .int .u8 0], (.struct [(0, 5), (1, 5)])⟩
noncomputable def Tryz.y356 : ATy := ⟨2, 2, true, [.int .u8 0, .int .u8 0], (.struct [(0, 5), (1, 5)])⟩
noncomputable def Tryz.y357 : ATy := ⟨32, 32, true, [.int .u8 0, .int .u8 0, .int .u8 0, .int .u8 0, .int .u8 0, .int .u8 0, .int .u8 0, .int .u8 0, .int .u8 0, .int .u8 0, .int .u8 0, .int .u8 0, .int .u8 0, .int .u8 0, .int .u8 0, .int .u8 0, .int .u8 0, .int .u8 0, .int .u8 0, .int .u8 0, .int .u8 0, .int .u8 0, .int .u8 0, .int .u8 0, .int .u8 0, .int .u8 0, .int .u8 0, .int .u8 0, .int .u8 0, .int .u8 0, .int .u8 0, .int .u8 0], (.array 16 356)⟩
noncomputable def Tryz.y358 : ATy := ⟨1, 8, false, [.nilp], (.ptr 291)⟩
noncomputable def Tryz.y359 : ATy := ⟨1, 8, false, [.nilf], .func⟩
noncomputable def Tryz.y361 : ATy := ⟨1, 8, false, [.nilf], .func⟩
noncomputable def Tryz.y362 : ATy := ⟨1, 8, false, [.nilf], .func⟩
noncomputable def Tryz.y363 : ATy := ⟨1, 8, false, [.nilf], .func⟩
noncomputable def Tryz.y364 : ATy := ⟨1, 8, false, [.nilf], .func⟩
noncomputable def Tryz.y365 : ATy := ⟨4, 32, true, [.int .i64 0, .int .i64 0, .int .i64 0, .int .i64 0], (.array 4 3)⟩
noncomputable def Tryz.y366 : ATy := ⟨8, 64, true, [.int .i64 0, .int .i64 0, .int .i64 0, .int .i64 0, .int .i64 0, .int .i64 0, .int .i64 0, .int .i64 0], (.array 2 365)⟩
noncomputable def Tryz.y368 : ATy := ⟨1, 8, false, [.nilf], .func⟩
noncomputable def Tryz.y369 : ATy := ⟨1, 8, false, [.nilf], .func⟩
noncomputable def Tryz.y370 : ATy := ⟨1, 8, false, [.nilm], (.map 3 328)⟩
noncomputable def Tryz.y371 : ATy := ⟨1, 8, false, [.nilf], .func⟩
noncomputable def Tryz.y372 : ATy := ⟨1, 8, false, [.nilf], .func⟩
noncomputable def Tryz.y373 : ATy := ⟨1, 8, false, [.nilf], .func⟩
noncomputable def Tryz.y374 : ATy := ⟨1, 8, false, [.nilf], .func⟩
noncomputable def Tryz.y375 : ATy := ⟨1, 8, false, [.nilf], .func⟩
noncomputable def Tryz.y376 : ATy := ⟨1, 8, false, [.nilf], .func⟩
noncomputable def Tryz.y378 : ATy := ⟨1, 8, false, [.nilf], .func⟩
noncomputable def Tryz.y379 : ATy := ⟨1, 8, false, [.nilf], .func⟩
noncomputable def Tryz.y380 : ATy := ⟨1, 8, false, [.nilf], .func⟩
noncomputable def Tryz.y381 : ATy := ⟨1, 8, false, [.nilf], .func⟩
noncomputable def Tryz.y382 : ATy := ⟨1, 24, false, [.nils], (.slice 384)⟩
noncomputable def Tryz.y383 : ATy := ⟨6, 64, true, [.int .i64 0, .nils, .int .i64 0, .int .i64 0, .int .i64 0, .int .i64 0], (.struct [(0, 3), (1, 25), (2, 151), (4, 151)])⟩
noncomputable def Tryz.y384 : ATy := ⟨6, 64, true, [.int .i64 0, .nils, .int .i64 0, .int .i64 0, .int .i64 0, .int .i64 0], (.struct [(0, 3), (1, 25), (2, 151), (4, 151)])⟩
noncomputable def Tryz.y385 : ATy := ⟨1, 8, false, [.nilf], .func⟩
noncomputable def Tryz.y386 : ATy := ⟨1, 8, false, [.nilf], .func⟩
noncomputable def Tryz.y387 : ATy := ⟨1, 8, false, [.nilf], .func⟩
noncomputable def Tryz.y388 : ATy := ⟨1, 8, false, [.nilf], .func⟩
noncomputable def Tryz.y389 : ATy := ⟨1, 8, false, [.nilf], .func⟩
noncomputable def Tryz.y390 : ATy := ⟨32, 32, true, [.int .u8 0, .int .u8 0, .int .u8 0, .int .u8 0, .int .u8 0, .int .u8 0, .int .u8 0, .int .u8 0, .int .u8 0, .int .u8 0, .int .u8 0, .int .u8 0, .int .u8 0, .int .u8 0, .int .u8 0, .int .u8 0, .int .u8 0, .int .u8 0, .int .u8 0, .int .u8 0, .int .u8 0, .int .u8 0, .int .u8 0, .int .u8 0, .int .u8 0, .int .u8 0, .int .u8 0, .int .u8 0, .int .u8 0, .int .u8 0, .int .u8 0, .int .u8 0], (.array 32 5)⟩
noncomputable def Tryz.y391 : ATy := ⟨64, 64, true, [.int .u8 0, .int .u8 0, .int .u8 0, .int .u8 0, .int .u8 0, .int .u8 0, .int .u8 0, .int .u8 0, .int .u8 0, .int .u8 0, .int .u8 0, .int .u8 0, .int .u8 0, .int .u8 0, .int .u8 0, .int .u8 0, .int .u8 0, .int .u8 0, .int .u8 0, .int .u8 0, .int .u8 0, .int .u8 0, .int .u8 0, .int .u8 0, .int .u8 0, .int .u8 0, .int .u8 0, .int .u8 0, .int .u8 0, .int .u8 0, .int .u8 0, .int .u8 0, .int .u8 0, .int .u8 0, .int .u8 0, .int .u8 0, .int .u8 0, .int .u8 0, .int .u8 0, .int .u8 0, .int .u8 0, .int .u8 0, .int .u8 0, .int .u8 0, .int .u8 0, .int .u8 0, .int .u8 0, .int .u8 0, .int .u8 0, .int .u8 0, .int .u8 0, .int .u8 0, .int .u8 0, .int .u8 0, .int .u8 0, .int .u8 0, .int .u8 0, .int .u8 0, .int .u8 0, .int .u8 0, .int .u8 0, .int .u8 0, .int .u8 0, .int .u8 0], (.array 64 5)⟩
noncomputable def Tryz.y392 : ATy := ⟨1, 8, false, [.nilf], .func⟩
noncomputable def Tryz.y393 : ATy := ⟨1, 8, false, [.nilf], .func⟩
noncomputable def Tryz.y394 : ATy := ⟨1, 8, false, [.nilf], .func⟩
noncomputable def Tryz.y395 : ATy := ⟨1, 8, false, [.nilf], .func⟩
noncomputable def Tryz.y396 : ATy := ⟨1, 8, false, [.nilf], .func⟩
noncomputable def Tryz.y397 : ATy := ⟨1, 8, false, [.nilf], .func⟩
noncomputable def Tryz.y398 : ATy := ⟨1, 8, false, [.nilf], .func⟩
noncomputable def Tryz.y399 : ATy := ⟨1, 8, false, [.nilf], .func⟩
noncomputable def Tryz.y400 : ATy := ⟨1, 8, false, [.nilf], .func⟩
noncomputable def Tryz.y401 : ATy := ⟨1, 8, false, [.nilf], .func⟩
noncomputable def Tryz.y402 : ATy := ⟨1, 8, false, [.nilf], .func⟩
noncomputable def Tryz.y403 : ATy := ⟨1, 8, false, [.nilf], .func⟩
noncomputable def Tryz.y404 : ATy := ⟨1, 8, false, [.nilf], .func⟩
noncomputable def Tryz.y405 : ATy := ⟨1, 8, false, [.nilf], .func⟩
noncomputable def Tryz.y406 : ATy := ⟨1, 8, false, [.nilf], .func⟩
noncomputable def Tryz.y407 : ATy := ⟨1, 8, false, [.nilf], .func⟩
noncomputable def Tryz.y408 : ATy := ⟨1, 8, false, [.nilf], .func⟩
noncomputable def Tryz.y409 : ATy := ⟨1, 8, false, [.nilf], .func⟩
noncomputable def Tryz.y410 : ATy := ⟨1, 8, false, [.nilf], .func⟩
noncomputable def Tryz.y411 : ATy := ⟨1, 8, false, [.nilf], .func⟩
noncomputable def Tryz.y412 : ATy := ⟨1, 8, false, [.nilf], .func⟩
noncomputable def Tryz.y413 : ATy := ⟨1, 8, false, [.nilf], .func⟩
noncomputable def Tryz.y414 : ATy := ⟨1, 8, false, [.nilf], .func⟩
noncomputable def Tryz.y415 : ATy := ⟨4, 40, true, [.nilp, .nilp, .nilp, .str []], (.struct [(0, 17), (1, 17), (2, 17), (3, 9)])⟩
noncomputable def Tryz.y416 : ATy := ⟨4, 40, true, [.nilp, .nilp, .nilp, .str []], (.struct [(0, 17), (1, 17), (2, 17), (3, 9)])⟩
noncomputable def Tryz.y417 : ATy := ⟨0, 0, true, [], (.array 0 16)⟩
noncomputable def Tryz.y418 : ATy := ⟨0, 0, true, [], (.struct [(0, 417)])⟩
noncomputable def Tryz.y419 : ATy := ⟨0, 0, true, [], (.struct [(0, 417)])⟩
noncomputable def Tryz.y420 : ATy := ⟨1, 1, false, [.int .u8 0], (.int .u8)⟩
noncomputable def Tryz.y421 : ATy := ⟨1, 1, false, [.int .u8 0], (.int .u8)⟩
noncomputable def Tryz.y422 : ATy := ⟨1, 8, false, [.nilf], .func⟩
noncomputable def Tryz.y423 : ATy := ⟨1, 4, false, [.int .i32 0], (.int .i32)⟩
noncomputable def Tryz.y424 : ATy := ⟨1, 4, false, [.int .i32 0], (.int .i32)⟩
noncomputable def Tryz.y425 : ATy := ⟨11, 48, true, [.int .u64 0, .int .u64 0, .int .u32 0, .int .u8 0, .int .u8 0, .int .u8 0, .int .u8 0, .nilf, .nilp, .int .i32 0, .int .i32 0], (.struct [(0, 12), (1, 12), (2, 240), (3, 420), (4, 5), (5, 5), (6, 421), (7, 422), (8, 143), (9, 423), (10, 424)])⟩
noncomputable def Tryz.y426 : ATy := ⟨11, 48, true, [.int .u64 0, .int .u64 0, .int .u32 0, .int .u8 0, .int .u8 0, .int .u8 0, .int .u8 0, .nilf, .nilp, .int .i32 0, .int .i32 0], (.struct [(0, 12), (1, 12), (2, 240), (3, 420), (4, 5), (5, 5), (6, 421), (7, 422), (8, 143), (9, 423), (10, 424)])⟩
noncomputable abbrev Tryz.x : PT ATy := leaf
noncomputable def Tryz.tyT : PT ATy :=
  let x := leaf
  (node none (node (some Tryz.y1) (node (some Tryz.y3) (node (some Tryz.y7) (node (some Tryz.y15) (node (some Tryz.y31) (node (some Tryz.y63) (node (some Tryz.y127) (node (some Tryz.y255) x x) (node (some Tryz.y383) x x)) (node (some Tryz.y191) (node none x x) x)) (node (some Tryz.y95) (node (some Tryz.y159) (node (some Tryz.y287) x x) (node (some Tryz.y415) x x)) (node (some Tryz.y223) (node (some Tryz.y351) x x) x))) (node (some Tryz.y47) (node (some Tryz.y79) (node (some Tryz.y143) (node none x x) (node (some Tryz.y399) x x)) (node (some Tryz.y207) (node (some Tryz.y335) x x) x)) (node (some Tryz.y111) (node (some Tryz.y175) (node (some Tryz.y303) x x) x) (node (some Tryz.y239) (node none x x) x)))) (node (some Tryz.y23) (node (some Tryz.y39) (node (some Tryz.y71) (node (some Tryz.y135) (node (some Tryz.y263) x x) (node (some Tryz.y391) x x)) (node (some Tryz.y199) (node (some Tryz.y327) x x) x)) (node (some Tryz.y103) (node (some Tryz.y167) (node (some Tryz.y295) x x) (node (some Tryz.y423) x x)) (node (some Tryz.y231) (node (some Tryz.y359) x x) x))) (node (some Tryz.y55) (node (some Tryz.y87) (node (some Tryz.y151) (node (some Tryz.y279) x x) (node (some Tryz.y407) x x)) (node (some Tryz.y215) (node (some Tryz.y343) x x) x)) (node (some Tryz.y119) (node (some Tryz.y183) (node (some Tryz.y311) x x) x) (node (some Tryz.y247) (node (some Tryz.y375) x x) x))))) (node (some Tryz.y11) (node (some Tryz.y19) (node (some Tryz.y35) (node (some Tryz.y67) (node (some Tryz.y131) (node (some Tryz.y259) x x) (node (some Tryz.y387) x x)) (node (some Tryz.y195) (node (some Tryz.y323) x x) x)) (node (some Tryz.y99) (node none (node (some Tryz.y291) x x) (node (some Tryz.y419) x x)) (node (some Tryz.y227) (node (some Tryz.y355) x x) x))) (node (some Tryz.y51) (node (some Tryz.y83) (node (some Tryz.y147) (node (some Tryz.y275) x x) (node (some Tryz.y403) x x)) (node (some Tryz.y211) (node (some Tryz.y339) x x) x)) (node (some Tryz.y115) (node (some Tryz.y179) (node (some Tryz.y307) x x) x) (node (some Tryz.y243) (node (some Tryz.y371) x x) x)))) (node (some Tryz.y27) (node (some Tryz.y43) (node none (node (some Tryz.y139) (node (some Tryz.y267) x x) (node (some Tryz.y395) x x)) (node (some Tryz.y203) (node (some Tryz.y331) x x) x)) (node none (node none (node (some Tryz.y299) x x) x) (node (some Tryz.y235) (node (some Tryz.y363) x x) x))) (node (some Tryz.y59) (node (some Tryz.y91) (node none (node (some Tryz.y283) x x) (node (some Tryz.y411) x x)) (node none (node none x x) x)) (node none (node (some Tryz.y187) (node (some Tryz.y315) x x) x) (node (some Tryz.y251) (node (some Tryz.y379) x x) x)))))) (node (some Tryz.y5) (node (some Tryz.y9) (node (some Tryz.y17) (node none (node (some Tryz.y65) (node (some Tryz.y129) (node none x x) (node (some Tryz.y385) x x)) (node none (node (some Tryz.y321) x x) x)) (node (some Tryz.y97) (node (some Tryz.y161) (node (some Tryz.y289) x x) (node (some Tryz.y417) x x)) (node (some Tryz.y225) (node (some Tryz.y353) x x) x))) (node (some Tryz.y49) (node (some Tryz.y81) (node (some Tryz.y145) (node none x x) (node (some Tryz.y401) x x)) (node (some Tryz.y209) (node (some Tryz.y337) x x) x)) (node (some Tryz.y113) (node (some Tryz.y177) (node (some Tryz.y305) x x) x) (node none (node (some Tryz.y369) x x) x)))) (node (some Tryz.y25) (node (some Tryz.y41) (node (some Tryz.y73) (node (some Tryz.y137) (node (some Tryz.y265) x x) (node (some Tryz.y393) x x)) (node (some Tryz.y201) (node (some Tryz.y329) x x) x)) (node (some Tryz.y105) (node (some Tryz.y169) (node (some Tryz.y297) x x) (node (some Tryz.y425) x x)) (node none (node (some Tryz.y361) x x) x))) (node (some Tryz.y57) (node (some Tryz.y89) (node (some Tryz.y153) (node (some Tryz.y281) x x) (node (some Tryz.y409) x x)) (node (some Tryz.y217) (node (some Tryz.y345) x x) x)) (node (some Tryz.y121) (node (some Tryz.y185) (node (some Tryz.y313) x x) x) (node (some Tryz.y249) (node none x x) x))))) (node (some Tryz.y13) (node (some Tryz.y21) (node (some Tryz.y37) (node none (node (some Tryz.y133) (node (some Tryz.y261) x x) (node (some Tryz.y389) x x)) (node (some Tryz.y197) (node (some Tryz.y325) x x) x)) (node (some Tryz.y101) (node (some Tryz.y165) (node (some Tryz.y293) x x) (node (some Tryz.y421) x x)) (node (some Tryz.y229) (node (some Tryz.y357) x x) x))) (node (some Tryz.y53) (node (some Tryz.y85) (node (some Tryz.y149) (node (some Tryz.y277) x x) (node (some Tryz.y405) x x)) (node (some Tryz.y213) (node (some Tryz.y341) x x) x)) (node none (node (some Tryz.y181) (node (some Tryz.y309) x x) x) (node (some Tryz.y245) (node (some Tryz.y373) x x) x)))) (node (some Tryz.y29) (node (some Tryz.y45) (node (some Tryz.y77) (node (some Tryz.y141) (node none x x) (node (some Tryz.y397) x x)) (node (some Tryz.y205) (node (some Tryz.y333) x x) x)) (node (some Tryz.y109) (node (some Tryz.y173) (node (some Tryz.y301) x x) x) (node (some Tryz.y237) (node (some Tryz.y365) x x) x))) (node (some Tryz.y61) (node (some Tryz.y93) (node none (node none x x) (node (some Tryz.y413) x x)) (node (some Tryz.y221) (node (some Tryz.y349) x x) x)) (node (some Tryz.y125) (node none (node (some Tryz.y317) x x) x) (node (some Tryz.y253) (node (some Tryz.y381) x x) x))))))) (node (some Tryz.y2) (node (some Tryz.y4) (node (some Tryz.y8) (node (some Tryz.y16) (node (some Tryz.y32) (node (some Tryz.y64) (node none (node (some Tryz.y256) x x) (node (some Tryz.y384) x x)) (node (some Tryz.y192) (node (some Tryz.y320) x x) x)) (node (some Tryz.y96) (node (some Tryz.y160) (node (some Tryz.y288) x x) (node (some Tryz.y416) x x)) (node (some Tryz.y224) (node (some Tryz.y352) x x) x))) (node none (node (some Tryz.y80) (node (some Tryz.y144) (node (some Tryz.y272) x x) (node (some Tryz.y400) x x)) (node (some Tryz.y208) (node (some Tryz.y336) x x) x)) (node (some Tryz.y112) (node (some Tryz.y176) (node (some Tryz.y304) x x) x) (node (some Tryz.y240) (node (some Tryz.y368) x x) x)))) (node (some Tryz.y24) (node (some Tryz.y40) (node (some Tryz.y72) (node (some Tryz.y136) (node none x x) (node (some Tryz.y392) x x)) (node (some Tryz.y200) (node (some Tryz.y328) x x) x)) (node none (node none (node (some Tryz.y296) x x) (node (some Tryz.y424) x x)) (node (some Tryz.y232) (node none x x) x))) (node none (node (some Tryz.y88) (node (some Tryz.y152) (node (some Tryz.y280) x x) (node (some Tryz.y408) x x)) (node none (node (some Tryz.y344) x x) x)) (node (some Tryz.y120) (node (some Tryz.y184) (node (some Tryz.y312) x x) x) (node (some Tryz.y248) (node (some Tryz.y376) x x) x))))) (node (some Tryz.y12) (node (some Tryz.y20) (node (some Tryz.y36) (node (some Tryz.y68) (node (some Tryz.y132) (node (some Tryz.y260) x x) (node (some Tryz.y388) x x)) (node (some Tryz.y196) (node (some Tryz.y324) x x) x)) (node (some Tryz.y100) (node (some Tryz.y164) (node (some Tryz.y292) x x) (node (some Tryz.y420) x x)) (node (some Tryz.y228) (node (some Tryz.y356) x x) x))) (node (some Tryz.y52) (node (some Tryz.y84) (node (some Tryz.y148) (node (some Tryz.y276) x x) (node (some Tryz.y404) x x)) (node (some Tryz.y212) (node (some Tryz.y340) x x) x)) (node (some Tryz.y116) (node (some Tryz.y180) (node (some Tryz.y308) x x) x) (node (some Tryz.y244) (node (some Tryz.y372) x x) x)))) (node (some Tryz.y28) (node (some Tryz.y44) (node (some Tryz.y76) (node (some Tryz.y140) (node (some Tryz.y268) x x) (node (some Tryz.y396) x x)) (node none (node (some Tryz.y332) x x) x)) (node (some Tryz.y108) (node (some Tryz.y172) (node (some Tryz.y300) x x) x) (node (some Tryz.y236) (node (some Tryz.y364) x x) x))) (node (some Tryz.y60) (node (some Tryz.y92) (node (some Tryz.y156) (node (some Tryz.y284) x x) (node (some Tryz.y412) x x)) (node (some Tryz.y220) (node (some Tryz.y348) x x) x)) (node (some Tryz.y124) (node (some Tryz.y188) (node (some Tryz.y316) x x) x) (node (some Tryz.y252) (node (some Tryz.y380) x x) x)))))) (node (some Tryz.y6) (node (some Tryz.y10) (node (some Tryz.y18) (node (some Tryz.y34) (node (some Tryz.y66) (node (some Tryz.y130) (node (some Tryz.y258) x x) (node (some Tryz.y386) x x)) (node (some Tryz.y194) (node (some Tryz.y322) x x) x)) (node none (node (some Tryz.y162) (node (some Tryz.y290) x x) (node (some Tryz.y418) x x)) (node (some Tryz.y226) (node none x x) x))) (node none (node (some Tryz.y82) (node (some Tryz.y146) (node (some Tryz.y274) x x) (node (some Tryz.y402) x x)) (node (some Tryz.y210) (node (some Tryz.y338) x x) x)) (node (some Tryz.y114) (node (some Tryz.y178) (node (some Tryz.y306) x x) x) (node (some Tryz.y242) (node (some Tryz.y370) x x) x)))) (node (some Tryz.y26) (node (some Tryz.y42) (node (some Tryz.y74) (node none (node (some Tryz.y266) x x) (node (some Tryz.y394) x x)) (node (some Tryz.y202) (node (some Tryz.y330) x x) x)) (node (some Tryz.y106) (node (some Tryz.y170) (node (some Tryz.y298) x x) (node (some Tryz.y426) x x)) (node (some Tryz.y234) (node (some Tryz.y362) x x) x))) (node (some Tryz.y58) (node (some Tryz.y90) (node (some Tryz.y154) (node (some Tryz.y282) x x) (node (some Tryz.y410) x x)) (node (some Tryz.y218) (node (some Tryz.y346) x x) x)) (node (some Tryz.y122) (node (some Tryz.y186) (node (some Tryz.y314) x x) x) (node (some Tryz.y250) (node (some Tryz.y378) x x) x))))) (node (some Tryz.y14) (node (some Tryz.y22) (node none (node (some Tryz.y70) (node (some Tryz.y134) (node (some Tryz.y262) x x) (node (some Tryz.y390) x x)) (node (some Tryz.y198) (node (some Tryz.y326) x x) x)) (node (some Tryz.y102) (node (some Tryz.y166) (node (some Tryz.y294) x x) (node (some Tryz.y422) x x)) (node (some Tryz.y230) (node (some Tryz.y358) x x) x))) (node (some Tryz.y54) (node (some Tryz.y86) (node (some Tryz.y150) (node (some Tryz.y278) x x) (node (some Tryz.y406) x x)) (node (some Tryz.y214) (node (some Tryz.y342) x x) x)) (node (some Tryz.y118) (node (some Tryz.y182) (node (some Tryz.y310) x x) x) (node (some Tryz.y246) (node (some Tryz.y374) x x) x)))) (node none (node (some Tryz.y46) (node (some Tryz.y78) (node (some Tryz.y142) (node none x x) (node (some Tryz.y398) x x)) (node (some Tryz.y206) (node (some Tryz.y334) x x) x)) (node (some Tryz.y110) (node (some Tryz.y174) (node (some Tryz.y302) x x) x) (node (some Tryz.y238) (node (some Tryz.y366) x x) x))) (node (some Tryz.y62) (node (some Tryz.y94) (node (some Tryz.y158) (node (some Tryz.y286) x x) (node (some Tryz.y414) x x)) (node none (node (some Tryz.y350) x x) x)) (node (some Tryz.y126) (node (some Tryz.y190) (node (some Tryz.y318) x x) x) (node (some Tryz.y254) (node (some Tryz.y382) x x) x))))))))
noncomputable def Tryz.fnT : PT Func :=
  let x := leaf
  (node none (node none (node (some Tryz.f3) (node (some Tryz.f7) (node (some Tryz.f15) (node (some Tryz.f31) (node (some Tryz.f63) (node (some Tryz.f127) (node (some Tryz.f255) x x) (node none x x)) (node (some Tryz.f191) (node (some Tryz.f319) x x) x)) (node (some Tryz.f95) (node (some Tryz.f159) (node (some Tryz.f287) x x) x) (node (some Tryz.f223) (node (some Tryz.f351) x x) x))) (node (some Tryz.f47) (node (some Tryz.f79) (node (some Tryz.f143) (node (some Tryz.f271) x x) x) (node (some Tryz.f207) (node (some Tryz.f335) x x) x)) (node (some Tryz.f111) (node (some Tryz.f175) (node (some Tryz.f303) x x) x) (node (some Tryz.f239) (node none x x) x)))) (node (some Tryz.f23) (node (some Tryz.f39) (node (some Tryz.f71) (node (some Tryz.f135) (node (some Tryz.f263) x x) x) (node (some Tryz.f199) (node (some Tryz.f327) x x) x)) (node (some Tryz.f103) (node (some Tryz.f167) (node (some Tryz.f295) x x) x) (node (some Tryz.f231) (node none x x) x))) (node (some Tryz.f55) (node (some Tryz.f87) (node none (node (some Tryz.f279) x x) x) (node none (node (some Tryz.f343) x x) x)) (node (some Tryz.f119) (node (some Tryz.f183) (node (some Tryz.f311) x x) x) (node (some Tryz.f247) (node none x x) x))))) (node (some Tryz.f11) (node (some Tryz.f19) (node (some Tryz.f35) (node (some Tryz.f67) (node (some Tryz.f131) (node (some Tryz.f259) x x) (node none x x)) (node (some Tryz.f195) (node (some Tryz.f323) x x) x)) (node (some Tryz.f99) (node (some Tryz.f163) (node (some Tryz.f291) x x) x) (node (some Tryz.f227) (node (some Tryz.f355) x x) x))) (node (some Tryz.f51) (node (some Tryz.f83) (node (some Tryz.f147) (node (some Tryz.f275) x x) x) (node (some Tryz.f211) (node (some Tryz.f339) x x) x)) (node (some Tryz.f115) (node (some Tryz.f179) (node (some Tryz.f307) x x) x) (node (some Tryz.f243) (node none x x) x)))) (node (some Tryz.f27) (node (some Tryz.f43) (node (some Tryz.f75) (node (some Tryz.f139) (node (some Tryz.f267) x x) x) (node (some Tryz.f203) (node (some Tryz.f331) x x) x)) (node (some Tryz.f107) (node (some Tryz.f171) (node (some Tryz.f299) x x) x) (node (some Tryz.f235) (node none x x) x))) (node (some Tryz.f59) (node (some Tryz.f91) (node none (node (some Tryz.f283) x x) x) (node (some Tryz.f219) (node (some Tryz.f347) x x) x)) (node (some Tryz.f123) (node (some Tryz.f187) (node (some Tryz.f315) x x) x) (node (some Tryz.f251) (node none x x) x)))))) (node (some Tryz.f5) (node (some Tryz.f9) (node (some Tryz.f17) (node (some Tryz.f33) (node (some Tryz.f65) (node (some Tryz.f129) (node (some Tryz.f257) x x) (node none x x)) (node (some Tryz.f193) (node (some Tryz.f321) x x) x)) (node (some Tryz.f97) (node (some Tryz.f161) (node (some Tryz.f289) x x) x) (node (some Tryz.f225) (node (some Tryz.f353) x x) x))) (node (some Tryz.f49) (node (some Tryz.f81) (node none (node (some Tryz.f273) x x) x) (node (some Tryz.f209) (node (some Tryz.f337) x x) x)) (node (some Tryz.f113) (node (some Tryz.f177) (node (some Tryz.f305) x x) x) (node (some Tryz.f241) (node none x x) x)))) (node (some Tryz.f25) (node (some Tryz.f41) (node (some Tryz.f73) (node (some Tryz.f137) (node (some Tryz.f265) x x) x) (node (some Tryz.f201) (node (some Tryz.f329) x x) x)) (node (some Tryz.f105) (node (some Tryz.f169) (node (some Tryz.f297) x x) x) (node (some Tryz.f233) (node none x x) x))) (node (some Tryz.f57) (node (some Tryz.f89) (node (some Tryz.f153) (node (some Tryz.f281) x x) x) (node (some Tryz.f217) (node (some Tryz.f345) x x) x)) (node (some Tryz.f121) (node (some Tryz.f185) (node (some Tryz.f313) x x) x) (node (some Tryz.f249) (node none x x) x))))) (node (some Tryz.f13) (node (some Tryz.f21) (node (some Tryz.f37) (node (some Tryz.f69) (node (some Tryz.f133) (node (some Tryz.f261) x x) x) (node (some Tryz.f197) (node (some Tryz.f325) x x) x)) (node (some Tryz.f101) (node (some Tryz.f165) (node (some Tryz.f293) x x) x) (node (some Tryz.f229) (node (some Tryz.f357) x x) x))) (node (some Tryz.f53) (node (some Tryz.f85) (node (some Tryz.f149) (node (some Tryz.f277) x x) x) (node (some Tryz.f213) (node (some Tryz.f341) x x) x)) (node (some Tryz.f117) (node (some Tryz.f181) (node (some Tryz.f309) x x) x) (node (some Tryz.f245) (node none x x) x)))) (node (some Tryz.f29) (node (some Tryz.f45) (node (some Tryz.f77) (node (some Tryz.f141) (node (some Tryz.f269) x x) x) (node (some Tryz.f205) (node (some Tryz.f333) x x) x)) (node (some Tryz.f109) (node (some Tryz.f173) (node (some Tryz.f301) x x) x) (node (some Tryz.f237) (node none x x) x))) (node (some Tryz.f61) (node (some Tryz.f93) (node (some Tryz.f157) (node (some Tryz.f285) x x) x) (node (some Tryz.f221) (node (some Tryz.f349) x x) x)) (node (some Tryz.f125) (node (some Tryz.f189) (node (some Tryz.f317) x x) x) (node (some Tryz.f253) (node none x x) x))))))) (node (some Tryz.f2) (node (some Tryz.f4) (node (some Tryz.f8) (node (some Tryz.f16) (node (some Tryz.f32) (node (some Tryz.f64) (node (some Tryz.f128) (node (some Tryz.f256) x x) (node none x x)) (node (some Tryz.f192) (node (some Tryz.f320) x x) x)) (node (some Tryz.f96) (node (some Tryz.f160) (node (some Tryz.f288) x x) x) (node (some Tryz.f224) (node (some Tryz.f352) x x) x))) (node (some Tryz.f48) (node (some Tryz.f80) (node (some Tryz.f144) (node (some Tryz.f272) x x) x) (node (some Tryz.f208) (node (some Tryz.f336) x x) x)) (node (some Tryz.f112) (node (some Tryz.f176) (node (some Tryz.f304) x x) x) (node (some Tryz.f240) (node none x x) x)))) (node (some Tryz.f24) (node (some Tryz.f40) (node (some Tryz.f72) (node (some Tryz.f136) (node (some Tryz.f264) x x) x) (node (some Tryz.f200) (node (some Tryz.f328) x x) x)) (node (some Tryz.f104) (node (some Tryz.f168) (node (some Tryz.f296) x x) x) (node (some Tryz.f232) (node none x x) x))) (node (some Tryz.f56) (node (some Tryz.f88) (node (some Tryz.f152) (node (some Tryz.f280) x x) x) (node (some Tryz.f216) (node (some Tryz.f344) x x) x)) (node (some Tryz.f120) (node (some Tryz.f184) (node (some Tryz.f312) x x) x) (node (some Tryz.f248) (node none x x) x))))) (node (some Tryz.f12) (node (some Tryz.f20) (node (some Tryz.f36) (node (some Tryz.f68) (node (some Tryz.f132) (node (some Tryz.f260) x x) (node (some Tryz.f388) x x)) (node (some Tryz.f196) (node (some Tryz.f324) x x) x)) (node (some Tryz.f100) (node (some Tryz.f164) (node (some Tryz.f292) x x) x) (node (some Tryz.f228) (node (some Tryz.f356) x x) x))) (node (some Tryz.f52) (node (some Tryz.f84) (node (some Tryz.f148) (node (some Tryz.f276) x x) x) (node (some Tryz.f212) (node none x x) x)) (node (some Tryz.f116) (node (some Tryz.f180) (node (some Tryz.f308) x x) x) (node (some Tryz.f244) (node none x x) x)))) (node (some Tryz.f28) (node (some Tryz.f44) (node (some Tryz.f76) (node (some Tryz.f140) (node (some Tryz.f268) x x) x) (node (some Tryz.f204) (node (some Tryz.f332) x x) x)) (node (some Tryz.f108) (node (some Tryz.f172) (node (some Tryz.f300) x x) x) (node (some Tryz.f236) (node none x x) x))) (node (some Tryz.f60) (node (some Tryz.f92) (node none (node (some Tryz.f284) x x) x) (node (some Tryz.f220) (node (some Tryz.f348) x x) x)) (node (some Tryz.f124) (node (some Tryz.f188) (node (some Tryz.f316) x x) x) (node (some Tryz.f252) (node none x x) x)))))) (node (some Tryz.f6) (node (some Tryz.f10) (node (some Tryz.f18) (node (some Tryz.f34) (node (some Tryz.f66) (node (some Tryz.f130) (node (some Tryz.f258) x x) (node none x x)) (node (some Tryz.f194) (node (some Tryz.f322) x x) x)) (node (some Tryz.f98) (node (some Tryz.f162) (node (some Tryz.f290) x x) x) (node (some Tryz.f226) (node (some Tryz.f354) x x) x))) (node (some Tryz.f50) (node (some Tryz.f82) (node (some Tryz.f146) (node (some Tryz.f274) x x) x) (node (some Tryz.f210) (node (some Tryz.f338) x x) x)) (node (some Tryz.f114) (node (some Tryz.f178) (node (some Tryz.f306) x x) x) (node (some Tryz.f242) (node none x x) x)))) (node (some Tryz.f26) (node (some Tryz.f42) (node (some Tryz.f74) (node (some Tryz.f138) (node (some Tryz.f266) x x) x) (node (some Tryz.f202) (node (some Tryz.f330) x x) x)) (node (some Tryz.f106) (node (some Tryz.f170) (node none x x) x) (node (some Tryz.f234) (node none x x) x))) (node (some Tryz.f58) (node (some Tryz.f90) (node (some Tryz.f154) (node (some Tryz.f282) x x) x) (node (some Tryz.f218) (node (some Tryz.f346) x x) x)) (node (some Tryz.f122) (node (some Tryz.f186) (node (some Tryz.f314) x x) x) (node (some Tryz.f250) (node none x x) x))))) (node (some Tryz.f14) (node (some Tryz.f22) (node (some Tryz.f38) (node (some Tryz.f70) (node (some Tryz.f134) (node (some Tryz.f262) x x) x) (node (some Tryz.f198) (node (some Tryz.f326) x x) x)) (node (some Tryz.f102) (node (some Tryz.f166) (node (some Tryz.f294) x x) x) (node (some Tryz.f230) (node none x x) x))) (node (some Tryz.f54) (node (some Tryz.f86) (node (some Tryz.f150) (node (some Tryz.f278) x x) x) (node (some Tryz.f214) (node (some Tryz.f342) x x) x)) (node (some Tryz.f118) (node (some Tryz.f182) (node (some Tryz.f310) x x) x) (node (some Tryz.f246) (node none x x) x)))) (node (some Tryz.f30) (node (some Tryz.f46) (node (some Tryz.f78) (node (some Tryz.f142) (node (some Tryz.f270) x x) x) (node (some Tryz.f206) (node (some Tryz.f334) x x) x)) (node (some Tryz.f110) (node (some Tryz.f174) (node (some Tryz.f302) x x) x) (node (some Tryz.f238) (node none x x) x))) (node (some Tryz.f62) (node (some Tryz.f94) (node (some Tryz.f158) (node (some Tryz.f286) x x) x) (node (some Tryz.f222) (node (some Tryz.f350) x x) x)) (node (some Tryz.f126) (node (some Tryz.f190) (node (some Tryz.f318) x x) x) (node (some Tryz.f254) (node none x x) x))))))))
noncomputable def Tryz.extT : PT Nat :=
  let x := leaf
  (node none (node none (node none (node none (node none (node none (node none (node none (node none x x) (node none x x)) (node none (node none x x) x)) (node none (node none (node none x x) x) (node none (node none x x) x))) (node none (node none (node none (node none x x) x) (node none (node none x x) x)) (node none (node none (node none x x) x) (node none (node none x x) x)))) (node none (node none (node none (node none (node none x x) x) (node none (node none x x) x)) (node none (node none (node none x x) x) (node none (node none x x) x))) (node none (node none (node none (node none x x) x) (node none (node none x x) x)) (node none (node none (node none x x) x) (node none (node none x x) x))))) (node none (node none (node none (node none (node none (node none x x) (node none x x)) (node none (node none x x) x)) (node none (node none (node none x x) x) (node none (node none x x) x))) (node none (node none (node none (node none x x) x) (node none (node none x x) x)) (node none (node none (node none x x) x) (node none (node none x x) x)))) (node none (node none (node none (node none (node none x x) x) (node none (node none x x) x)) (node none (node none (node none x x) x) (node none (node none x x) x))) (node none (node none (node (some 2) (node none x x) x) (node none (node none x x) x)) (node none (node none (node none x x) x) (node none (node none x x) x)))))) (node none (node none (node none (node none (node none (node none (node none x x) (node none x x)) (node none (node none x x) x)) (node none (node none (node none x x) x) (node none (node none x x) x))) (node none (node none (node none (node none x x) x) (node none (node none x x) x)) (node none (node none (node none x x) x) (node none (node none x x) x)))) (node none (node none (node none (node none (node none x x) x) (node none (node none x x) x)) (node none (node none (node none x x) x) (node none (node none x x) x))) (node none (node none (node none (node none x x) x) (node none (node none x x) x)) (node none (node none (node none x x) x) (node none (node none x x) x))))) (node none (node none (node none (node none (node none (node none x x) x) (node none (node none x x) x)) (node none (node none (node none x x) x) (node none (node none x x) x))) (node none (node none (node none (node none x x) x) (node none (node none x x) x)) (node none (node none (node none x x) x) (node none (node none x x) x)))) (node none (node none (node none (node none (node none x x) x) (node none (node none x x) x)) (node none (node none (node none x x) x) (node none (node none x x) x))) (node none (node none (node none (node none x x) x) (node none (node none x x) x)) (node none (node none (node none x x) x) (node none (node none x x) x))))))) (node none (node none (node none (node none (node none (node none (node none (node none x x) (node none x x)) (node none (node none x x) x)) (node none (node none (node none x x) x) (node none (node none x x) x))) (node none (node none (node none (node none x x) x) (node none (node none x x) x)) (node none (node none (node none x x) x) (node none (node none x x) x)))) (node none (node none (node none (node none (node none x x) x) (node none (node none x x) x)) (node none (node none (node none x x) x) (node none (node none x x) x))) (node none (node none (node none (node none x x) x) (node none (node none x x) x)) (node none (node none (node none x x) x) (node none (node none x x) x))))) (node none (node none (node none (node none (node none (node none x x) (node none x x)) (node none (node none x x) x)) (node none (node none (node none x x) x) (node none (node none x x) x))) (node none (node none (node none (node none x x) x) (node none (node (some 1) x x) x)) (node none (node none (node none x x) x) (node none (node none x x) x)))) (node none (node none (node none (node none (node none x x) x) (node none (node none x x) x)) (node none (node none (node none x x) x) (node none (node none x x) x))) (node none (node none (node none (node none x x) x) (node none (node none x x) x)) (node none (node none (node none x x) x) (node none (node none x x) x)))))) (node none (node none (node none (node none (node none (node none (node none x x) (node none x x)) (node none (node none x x) x)) (node none (node none (node none x x) x) (node none (node none x x) x))) (node none (node none (node none (node none x x) x) (node none (node none x x) x)) (node none (node none (node none x x) x) (node none (node none x x) x)))) (node none (node none (node none (node none (node none x x) x) (node none (node none x x) x)) (node none (node none (node (some 0) x x) x) (node none (node none x x) x))) (node none (node none (node none (node none x x) x) (node none (node none x x) x)) (node none (node none (node none x x) x) (node none (node none x x) x))))) (node none (node none (node none (node none (node none (node none x x) x) (node none (node none x x) x)) (node none (node none (node none x x) x) (node none (node none x x) x))) (node none (node none (node none (node none x x) x) (node none (node none x x) x)) (node none (node none (node none x x) x) (node none (node none x x) x)))) (node none (node none (node none (node none (node none x x) x) (node none (node none x x) x)) (node none (node none (node none x x) x) (node none (node none x x) x))) (node none (node none (node none (node none x x) x) (node none (node none x x) x)) (node none (node none (node none x x) x) (node none (node none x x) x))))))))
noncomputable def Tryz.ctx : Ctx := ⟨10, Tryz.tyT, Tryz.fnT, Tryz.extT⟩
end Go.Proofs
namespace Go.Proofs
open Go.Ev
set_option maxRecDepth 100000
theorem Tryz.ty3 : Tryz.ctx.ty.get 3 = some Tryz.y3 := by kernel_rfl
theorem Tryz.wt3 (k : ATy → R) : withT Tryz.ctx.ty 3 k = k Tryz.y3 := withT_some Tryz.ty3
theorem Tryz.ty4 : Tryz.ctx.ty.get 4 = some Tryz.y4 := by kernel_rfl
theorem Tryz.wt4 (k : ATy → R) : withT Tryz.ctx.ty 4 k = k Tryz.y4 := withT_some Tryz.ty4
theorem Tryz.ty9 : Tryz.ctx.ty.get 9 = some Tryz.y9 := by kernel_rfl
theorem Tryz.wt9 (k : ATy → R) : withT Tryz.ctx.ty 9 k = k Tryz.y9 := withT_some Tryz.ty9
theorem Tryz.ty22 : Tryz.ctx.ty.get 22 = some Tryz.y22 := by kernel_rfl
theorem Tryz.wt22 (k : ATy → R) : withT Tryz.ctx.ty 22 k = k Tryz.y22 := withT_some Tryz.ty22
theorem Tryz.ty24 : Tryz.ctx.ty.get 24 = some Tryz.y24 := by kernel_rfl
theorem Tryz.wt24 (k : ATy → R) : withT Tryz.ctx.ty 24 k = k Tryz.y24 := withT_some Tryz.ty24
theorem Tryz.ty25 : Tryz.ctx.ty.get 25 = some Tryz.y25 := by kernel_rfl
theorem Tryz.wt25 (k : ATy → R) : withT Tryz.ctx.ty 25 k = k Tryz.y25 := withT_some Tryz.ty25
theorem Tryz.ty27 : Tryz.ctx.ty.get 27 = some Tryz.y27 := by kernel_rfl
theorem Tryz.wt27 (k : ATy → R) : withT Tryz.ctx.ty 27 k = k Tryz.y27 := withT_some Tryz.ty27
theorem Tryz.ty29 : Tryz.ctx.ty.get 29 = some Tryz.y29 := by kernel_rfl
theorem Tryz.wt29 (k : ATy → R) : withT Tryz.ctx.ty 29 k = k Tryz.y29 := withT_some Tryz.ty29
theorem Tryz.ty52 : Tryz.ctx.ty.get 52 = some Tryz.y52 := by kernel_rfl
theorem Tryz.wt52 (k : ATy → R) : withT Tryz.ctx.ty 52 k = k Tryz.y52 := withT_some Tryz.ty52
theorem Tryz.ty55 : Tryz.ctx.ty.get 55 = some Tryz.y55 := by kernel_rfl
theorem Tryz.wt55 (k : ATy → R) : withT Tryz.ctx.ty 55 k = k Tryz.y55 := withT_some Tryz.ty55
theorem Tryz.ty80 : Tryz.ctx.ty.get 80 = some Tryz.y80 := by kernel_rfl
theorem Tryz.wt80 (k : ATy → R) : withT Tryz.ctx.ty 80 k = k Tryz.y80 := withT_some Tryz.ty80
theorem Tryz.ty88 : Tryz.ctx.ty.get 88 = some Tryz.y88 := by kernel_rfl
theorem Tryz.wt88 (k : ATy → R) : withT Tryz.ctx.ty 88 k = k Tryz.y88 := withT_some Tryz.ty88
theorem Tryz.ty89 : Tryz.ctx.ty.get 89 = some Tryz.y89 := by kernel_rfl
theorem Tryz.wt89 (k : ATy → R) : withT Tryz.ctx.ty 89 k = k Tryz.y89 := withT_some Tryz.ty89
theorem Tryz.ty91 : Tryz.ctx.ty.get 91 = some Tryz.y91 := by kernel_rfl
theorem Tryz.wt91 (k : ATy → R) : withT Tryz.ctx.ty 91 k = k Tryz.y91 := withT_some Tryz.ty91
theorem Tryz.ty133 : Tryz.ctx.ty.get 133 = some Tryz.y133 := by kernel_rfl
theorem Tryz.wt133 (k : ATy → R) : withT Tryz.ctx.ty 133 k = k Tryz.y133 := withT_some Tryz.ty133
theorem Tryz.ty143 : Tryz.ctx.ty.get 143 = some Tryz.y143 := by kernel_rfl
theorem Tryz.wt143 (k : ATy → R) : withT Tryz.ctx.ty 143 k = k Tryz.y143 := withT_some Tryz.ty143
theorem Tryz.ty227 : Tryz.ctx.ty.get 227 = some Tryz.y227 := by kernel_rfl
theorem Tryz.wt227 (k : ATy → R) : withT Tryz.ctx.ty 227 k = k Tryz.y227 := withT_some Tryz.ty227
theorem Tryz.fa24_0 (b o : Nat) (h : AH) : evFieldAddr Tryz.ctx.ty Tryz.y24 (.ptr b o) 0 h = .val (.ptr b (o + 0)) h := fieldAddr_eq (a' := Tryz.y22) (by kernel_rfl) rfl
theorem Tryz.fa27_0 (b o : Nat) (h : AH) : evFieldAddr Tryz.ctx.ty Tryz.y27 (.ptr b o) 0 h = .val (.ptr b (o + 0)) h := fieldAddr_eq (a' := Tryz.y3) (by kernel_rfl) rfl
theorem Tryz.fa27_1 (b o : Nat) (h : AH) : evFieldAddr Tryz.ctx.ty Tryz.y27 (.ptr b o) 1 h = .val (.ptr b (o + 1)) h := fieldAddr_eq (a' := Tryz.y3) (by kernel_rfl) rfl
theorem Tryz.fa27_2 (b o : Nat) (h : AH) : evFieldAddr Tryz.ctx.ty Tryz.y27 (.ptr b o) 2 h = .val (.ptr b (o + 2)) h := fieldAddr_eq (a' := Tryz.y24) (by kernel_rfl) rfl
theorem Tryz.fa27_3 (b o : Nat) (h : AH) : evFieldAddr Tryz.ctx.ty Tryz.y27 (.ptr b o) 3 h = .val (.ptr b (o + 3)) h := fieldAddr_eq (a' := Tryz.y25) (by kernel_rfl) rfl
theorem Tryz.fa91_0 (b o : Nat) (h : AH) : evFieldAddr Tryz.ctx.ty Tryz.y91 (.ptr b o) 0 h = .val (.ptr b (o + 0)) h := fieldAddr_eq (a' := Tryz.y88) (by kernel_rfl) rfl
theorem Tryz.fa91_1 (b o : Nat) (h : AH) : evFieldAddr Tryz.ctx.ty Tryz.y91 (.ptr b o) 1 h = .val (.ptr b (o + 1)) h := fieldAddr_eq (a' := Tryz.y89) (by kernel_rfl) rfl
theorem Tryz.fn4 : Tryz.ctx.fn.get 4 = some Tryz.f4 := by kernel_rfl
theorem Tryz.ex4 : Tryz.ctx.ext.get 4 = none := by kernel_rfl
theorem Tryz.fn5 : Tryz.ctx.fn.get 5 = some Tryz.f5 := by kernel_rfl
theorem Tryz.ex5 : Tryz.ctx.ext.get 5 = none := by kernel_rfl
theorem Tryz.fn6 : Tryz.ctx.fn.get 6 = some Tryz.f6 := by kernel_rfl
theorem Tryz.ex6 : Tryz.ctx.ext.get 6 = none := by kernel_rfl
theorem Tryz.fn7 : Tryz.ctx.fn.get 7 = some Tryz.f7 := by kernel_rfl
theorem Tryz.ex7 : Tryz.ctx.ext.get 7 = none := by kernel_rfl
theorem Tryz.fn8 : Tryz.ctx.fn.get 8 = some Tryz.f8 := by kernel_rfl
theorem Tryz.ex8 : Tryz.ctx.ext.get 8 = none := by kernel_rfl
theorem Tryz.fn9 : Tryz.ctx.fn.get 9 = some Tryz.f9 := by kernel_rfl
theorem Tryz.ex9 : Tryz.ctx.ext.get 9 = none := by kernel_rfl
theorem Tryz.fn10 : Tryz.ctx.fn.get 10 = some Tryz.f10 := by kernel_rfl
theorem Tryz.ex10 : Tryz.ctx.ext.get 10 = none := by kernel_rfl
theorem Tryz.fn14 : Tryz.ctx.fn.get 14 = some Tryz.f14 := by kernel_rfl
theorem Tryz.ex14 : Tryz.ctx.ext.get 14 = none := by kernel_rfl
theorem Tryz.fn15 : Tryz.ctx.fn.get 15 = some Tryz.f15 := by kernel_rfl
theorem Tryz.ex15 : Tryz.ctx.ext.get 15 = none := by kernel_rfl
theorem Tryz.fn16 : Tryz.ctx.fn.get 16 = some Tryz.f16 := by kernel_rfl
theorem Tryz.ex16 : Tryz.ctx.ext.get 16 = none := by kernel_rfl
theorem Tryz.fn17 : Tryz.ctx.fn.get 17 = some Tryz.f17 := by kernel_rfl
theorem Tryz.ex17 : Tryz.ctx.ext.get 17 = none := by kernel_rfl
theorem Tryz.fn18 : Tryz.ctx.fn.get 18 = some Tryz.f18 := by kernel_rfl
theorem Tryz.ex18 : Tryz.ctx.ext.get 18 = none := by kernel_rfl
theorem Tryz.fn19 : Tryz.ctx.fn.get 19 = some Tryz.f19 := by kernel_rfl
theorem Tryz.ex19 : Tryz.ctx.ext.get 19 = none := by kernel_rfl
theorem Tryz.fn20 : Tryz.ctx.fn.get 20 = some Tryz.f20 := by kernel_rfl
theorem Tryz.ex20 : Tryz.ctx.ext.get 20 = none := by kernel_rfl
theorem Tryz.fn21 : Tryz.ctx.fn.get 21 = some Tryz.f21 := by kernel_rfl
theorem Tryz.ex21 : Tryz.ctx.ext.get 21 = none := by kernel_rfl
theorem Tryz.fn22 : Tryz.ctx.fn.get 22 = some Tryz.f22 := by kernel_rfl
theorem Tryz.ex22 : Tryz.ctx.ext.get 22 = none := by kernel_rfl
theorem Tryz.fn23 : Tryz.ctx.fn.get 23 = some Tryz.f23 := by kernel_rfl
theorem Tryz.ex23 : Tryz.ctx.ext.get 23 = none := by kernel_rfl
theorem Tryz.fn24 : Tryz.ctx.fn.get 24 = some Tryz.f24 := by kernel_rfl
theorem Tryz.ex24 : Tryz.ctx.ext.get 24 = none := by kernel_rfl
theorem Tryz.fn25 : Tryz.ctx.fn.get 25 = some Tryz.f25 := by kernel_rfl
theorem Tryz.ex25 : Tryz.ctx.ext.get 25 = none := by kernel_rfl
theorem Tryz.fn26 : Tryz.ctx.fn.get 26 = some Tryz.f26 := by kernel_rfl
theorem Tryz.ex26 : Tryz.ctx.ext.get 26 = none := by kernel_rfl
theorem Tryz.fn38 : Tryz.ctx.fn.get 38 = some Tryz.f38 := by kernel_rfl
theorem Tryz.ex38 : Tryz.ctx.ext.get 38 = none := by kernel_rfl
theorem Tryz.fn40 : Tryz.ctx.fn.get 40 = some Tryz.f40 := by kernel_rfl
theorem Tryz.ex40 : Tryz.ctx.ext.get 40 = none := by kernel_rfl
theorem Tryz.fn41 : Tryz.ctx.fn.get 41 = some Tryz.f41 := by kernel_rfl
theorem Tryz.ex41 : Tryz.ctx.ext.get 41 = none := by kernel_rfl
theorem Tryz.fn42 : Tryz.ctx.fn.get 42 = some Tryz.f42 := by kernel_rfl
theorem Tryz.ex42 : Tryz.ctx.ext.get 42 = none := by kernel_rfl
theorem Tryz.fn43 : Tryz.ctx.fn.get 43 = some Tryz.f43 := by kernel_rfl
theorem Tryz.ex43 : Tryz.ctx.ext.get 43 = none := by kernel_rfl
theorem Tryz.fn44 : Tryz.ctx.fn.get 44 = some Tryz.f44 := by kernel_rfl
theorem Tryz.ex44 : Tryz.ctx.ext.get 44 = none := by kernel_rfl
theorem Tryz.fn45 : Tryz.ctx.fn.get 45 = some Tryz.f45 := by kernel_rfl
theorem Tryz.ex45 : Tryz.ctx.ext.get 45 = none := by kernel_rfl
theorem Tryz.fn46 : Tryz.ctx.fn.get 46 = some Tryz.f46 := by kernel_rfl
theorem Tryz.ex46 : Tryz.ctx.ext.get 46 = none := by kernel_rfl
theorem Tryz.fn50 : Tryz.ctx.fn.get 50 = some Tryz.f50 := by kernel_rfl
theorem Tryz.ex50 : Tryz.ctx.ext.get 50 = none := by kernel_rfl
theorem Tryz.fn51 : Tryz.ctx.fn.get 51 = some Tryz.f51 := by kernel_rfl
theorem Tryz.ex51 : Tryz.ctx.ext.get 51 = none := by kernel_rfl
theorem Tryz.fn77 : Tryz.ctx.fn.get 77 = some Tryz.f77 := by kernel_rfl
theorem Tryz.ex77 : Tryz.ctx.ext.get 77 = none := by kernel_rfl
theorem Tryz.fn78 : Tryz.ctx.fn.get 78 = some Tryz.f78 := by kernel_rfl
theorem Tryz.ex78 : Tryz.ctx.ext.get 78 = none := by kernel_rfl
theorem Tryz.fn79 : Tryz.ctx.fn.get 79 = some Tryz.f79 := by kernel_rfl
theorem Tryz.ex79 : Tryz.ctx.ext.get 79 = none := by kernel_rfl
theorem Tryz.fn80 : Tryz.ctx.fn.get 80 = some Tryz.f80 := by kernel_rfl
theorem Tryz.ex80 : Tryz.ctx.ext.get 80 = none := by kernel_rfl
theorem Tryz.fn81 : Tryz.ctx.fn.get 81 = some Tryz.f81 := by kernel_rfl
theorem Tryz.ex81 : Tryz.ctx.ext.get 81 = none := by kernel_rfl
theorem Tryz.fn82 : Tryz.ctx.fn.get 82 = some Tryz.f82 := by kernel_rfl
theorem Tryz.ex82 : Tryz.ctx.ext.get 82 = none := by kernel_rfl
theorem Tryz.fn88 : Tryz.ctx.fn.get 88 = some Tryz.f88 := by kernel_rfl
theorem Tryz.ex88 : Tryz.ctx.ext.get 88 = none := by kernel_rfl
end Go.Proofs
namespace Go.Proofs
open Go.Ev
theorem Bn : type_of% (And.intro @beq_self_eq_true.{0} (And.intro @op_move (And.intro @op_assign (And.intro @op_pick (And.intro @op_bin (And.intro @opd_tmp (And.intro @opd_const (And.intro @opd_func (And.intro @ofValue_int (And.intro @ofValue_bool (And.intro @ofValue_str (And.intro @ofValue_nilif (And.intro @with1_some (And.intro @with2_some (And.intro @ofVal_some (And.intro @get_putD (And.intro @putD_none (And.intro @pick_true (And.intro @pick_false (And.intro @bin_lss (And.intro @bin_leq (And.intro @bin_gtr (And.intro @bin_geq (And.intro @bin_eql (And.intro @bin_neq (And.intro @decide_true (And.intro @decide_false (And.intro @Bool.not_true (And.intro @Bool.not_false (And.intro @Nat.succ_ne_self (And.intro @op_box (And.intro @op_alloc (And.intro @evNew_eq (And.intro @cells_agg (And.intro @cells_int (And.intro @cells_str (And.intro @cells_bool (And.intro @op_loadE (And.intro @op_fieldAddr (And.intro @op_extract (And.intro @op_nilCheck (And.intro @nilCheck_ptr (And.intro @op_un (And.intro @un_not (And.intro @op_lenE (And.intro @op_indexAddrE (And.intro @oe_some (And.intro @get_add_self (And.intro @Nat.zero_add (And.intro @Nat.add_zero (And.intro @Bool.false_and (And.intro @Bool.true_and (And.intro @Bool.and_false (And.intro @Bool.and_true (And.intro @Tryz.wt3 (And.intro @Tryz.wt4 (And.intro @Tryz.wt9 (And.intro @Tryz.wt22 (And.intro @Tryz.wt24 (And.intro @Tryz.wt25 (And.intro @Tryz.wt27 (And.intro @Tryz.wt29 (And.intro @Tryz.wt52 (And.intro @Tryz.wt55 (And.intro @Tryz.wt80 (And.intro @Tryz.wt88 (And.intro @Tryz.wt89 (And.intro @Tryz.wt91 (And.intro @Tryz.wt133 (And.intro @Tryz.wt143 (And.intro @Tryz.wt227 (And.intro @Tryz.fa24_0 (And.intro @Tryz.fa27_0 (And.intro @Tryz.fa27_1 (And.intro @Tryz.fa27_2 (And.intro @Tryz.fa27_3 (And.intro @Tryz.fa91_0 @Tryz.fa91_1))))))))))))))))))))))))))))))))))))))))))))))))))))))))))))))))))))))))))))) :=
  (And.intro @beq_self_eq_true.{0} (And.intro @op_move (And.intro @op_assign (And.intro @op_pick (And.intro @op_bin (And.intro @opd_tmp (And.intro @opd_const (And.intro @opd_func (And.intro @ofValue_int (And.intro @ofValue_bool (And.intro @ofValue_str (And.intro @ofValue_nilif (And.intro @with1_some (And.intro @with2_some (And.intro @ofVal_some (And.intro @get_putD (And.intro @putD_none (And.intro @pick_true (And.intro @pick_false (And.intro @bin_lss (And.intro @bin_leq (And.intro @bin_gtr (And.intro @bin_geq (And.intro @bin_eql (And.intro @bin_neq (And.intro @decide_true (And.intro @decide_false (And.intro @Bool.not_true (And.intro @Bool.not_false (And.intro @Nat.succ_ne_self (And.intro @op_box (And.intro @op_alloc (And.intro @evNew_eq (And.intro @cells_agg (And.intro @cells_int (And.intro @cells_str (And.intro @cells_bool (And.intro @op_loadE (And.intro @op_fieldAddr (And.intro @op_extract (And.intro @op_nilCheck (And.intro @nilCheck_ptr (And.intro @op_un (And.intro @un_not (And.intro @op_lenE (And.intro @op_indexAddrE (And.intro @oe_some (And.intro @get_add_self (And.intro @Nat.zero_add (And.intro @Nat.add_zero (And.intro @Bool.false_and (And.intro @Bool.true_and (And.intro @Bool.and_false (And.intro @Bool.and_true (And.intro @Tryz.wt3 (And.intro @Tryz.wt4 (And.intro @Tryz.wt9 (And.intro @Tryz.wt22 (And.intro @Tryz.wt24 (And.intro @Tryz.wt25 (And.intro @Tryz.wt27 (And.intro @Tryz.wt29 (And.intro @Tryz.wt52 (And.intro @Tryz.wt55 (And.intro @Tryz.wt80 (And.intro @Tryz.wt88 (And.intro @Tryz.wt89 (And.intro @Tryz.wt91 (And.intro @Tryz.wt133 (And.intro @Tryz.wt143 (And.intro @Tryz.wt227 (And.intro @Tryz.fa24_0 (And.intro @Tryz.fa27_0 (And.intro @Tryz.fa27_1 (And.intro @Tryz.fa27_2 (And.intro @Tryz.fa27_3 (And.intro @Tryz.fa91_0 @Tryz.fa91_1)))))))))))))))))))))))))))))))))))))))))))))))))))))))))))))))))))))))))))))
theorem Bl : type_of% (And.intro @load_ptr @cellsE_cells) :=
  (And.intro @load_ptr @cellsE_cells)
theorem Bm : type_of% (And.intro Bn Bl) := And.intro Bn Bl
end Go.Proofs
