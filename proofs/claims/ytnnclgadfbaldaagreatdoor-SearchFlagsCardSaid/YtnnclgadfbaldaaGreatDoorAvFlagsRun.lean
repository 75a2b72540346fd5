/-
  SearchFlags: what the evaluator finds.
-/
import Derived.Test.YtnnclgadfbaldaaGreatDoorAvFlagsDefs
namespace Go.Proofs.YtnnclgadfbaldaaGreatDoor
open Go Go.Av Go.RowKit Go.Proofs

def PF (f : Nat) : Prop := ∀ (m : Int) (X : AV), upto (GM m) (cfA m) 7 100 m6.body { fr := enterFr 0 [X, .int .u8 f], base := 0, esc := none, h := [] } = some (93, tl7, stF7 f X)
theorem pf_zero : ∀ f, f < 0 → PF f := fun f h => by omega
theorem pf_succ {n : Nat} (h : ∀ f, f < n → PF f) (hn : PF n) : ∀ f, f < n + 1 → PF f := fun f hf => by
  by_cases e : f = n
  · subst e; exact hn
  · exact h f (by omega)
theorem pf_0 : PF 0 := fun _ _ => by kernel_rfl
theorem pf_1 : PF 1 := fun _ _ => by kernel_rfl
theorem pf_2 : PF 2 := fun _ _ => by kernel_rfl
theorem pf_3 : PF 3 := fun _ _ => by kernel_rfl
theorem pf_4 : PF 4 := fun _ _ => by kernel_rfl
theorem pf_5 : PF 5 := fun _ _ => by kernel_rfl
theorem pf_6 : PF 6 := fun _ _ => by kernel_rfl
theorem pf_7 : PF 7 := fun _ _ => by kernel_rfl
theorem pf_8 : PF 8 := fun _ _ => by kernel_rfl
theorem pf_9 : PF 9 := fun _ _ => by kernel_rfl
theorem pf_10 : PF 10 := fun _ _ => by kernel_rfl
theorem pf_11 : PF 11 := fun _ _ => by kernel_rfl
theorem pf_12 : PF 12 := fun _ _ => by kernel_rfl
theorem pf_13 : PF 13 := fun _ _ => by kernel_rfl
theorem pf_14 : PF 14 := fun _ _ => by kernel_rfl
theorem pf_15 : PF 15 := fun _ _ => by kernel_rfl
theorem pf_16 : PF 16 := fun _ _ => by kernel_rfl
theorem pf_17 : PF 17 := fun _ _ => by kernel_rfl
theorem pf_18 : PF 18 := fun _ _ => by kernel_rfl
theorem pf_19 : PF 19 := fun _ _ => by kernel_rfl
theorem pf_20 : PF 20 := fun _ _ => by kernel_rfl
theorem pf_21 : PF 21 := fun _ _ => by kernel_rfl
theorem pf_22 : PF 22 := fun _ _ => by kernel_rfl
theorem pf_23 : PF 23 := fun _ _ => by kernel_rfl
theorem pf_24 : PF 24 := fun _ _ => by kernel_rfl
theorem pf_25 : PF 25 := fun _ _ => by kernel_rfl
theorem pf_26 : PF 26 := fun _ _ => by kernel_rfl
theorem pf_27 : PF 27 := fun _ _ => by kernel_rfl
theorem pf_28 : PF 28 := fun _ _ => by kernel_rfl
theorem pf_29 : PF 29 := fun _ _ => by kernel_rfl
theorem pf_30 : PF 30 := fun _ _ => by kernel_rfl
theorem pf_31 : PF 31 := fun _ _ => by kernel_rfl
theorem pf_32 : PF 32 := fun _ _ => by kernel_rfl
theorem pf_33 : PF 33 := fun _ _ => by kernel_rfl
theorem pf_34 : PF 34 := fun _ _ => by kernel_rfl
theorem pf_35 : PF 35 := fun _ _ => by kernel_rfl
theorem pf_36 : PF 36 := fun _ _ => by kernel_rfl
theorem pf_37 : PF 37 := fun _ _ => by kernel_rfl
theorem pf_38 : PF 38 := fun _ _ => by kernel_rfl
theorem pf_39 : PF 39 := fun _ _ => by kernel_rfl
theorem pf_40 : PF 40 := fun _ _ => by kernel_rfl
theorem pf_41 : PF 41 := fun _ _ => by kernel_rfl
theorem pf_42 : PF 42 := fun _ _ => by kernel_rfl
theorem pf_43 : PF 43 := fun _ _ => by kernel_rfl
theorem pf_44 : PF 44 := fun _ _ => by kernel_rfl
theorem pf_45 : PF 45 := fun _ _ => by kernel_rfl
theorem pf_46 : PF 46 := fun _ _ => by kernel_rfl
theorem pf_47 : PF 47 := fun _ _ => by kernel_rfl
theorem pf_48 : PF 48 := fun _ _ => by kernel_rfl
theorem pf_49 : PF 49 := fun _ _ => by kernel_rfl
theorem pf_50 : PF 50 := fun _ _ => by kernel_rfl
theorem pf_51 : PF 51 := fun _ _ => by kernel_rfl
theorem pf_52 : PF 52 := fun _ _ => by kernel_rfl
theorem pf_53 : PF 53 := fun _ _ => by kernel_rfl
theorem pf_54 : PF 54 := fun _ _ => by kernel_rfl
theorem pf_55 : PF 55 := fun _ _ => by kernel_rfl
theorem pf_56 : PF 56 := fun _ _ => by kernel_rfl
theorem pf_57 : PF 57 := fun _ _ => by kernel_rfl
theorem pf_58 : PF 58 := fun _ _ => by kernel_rfl
theorem pf_59 : PF 59 := fun _ _ => by kernel_rfl
theorem pf_60 : PF 60 := fun _ _ => by kernel_rfl
theorem pf_61 : PF 61 := fun _ _ => by kernel_rfl
theorem pf_62 : PF 62 := fun _ _ => by kernel_rfl
theorem pf_63 : PF 63 := fun _ _ => by kernel_rfl
theorem pf_64 : PF 64 := fun _ _ => by kernel_rfl
theorem pf_65 : PF 65 := fun _ _ => by kernel_rfl
theorem pf_66 : PF 66 := fun _ _ => by kernel_rfl
theorem pf_67 : PF 67 := fun _ _ => by kernel_rfl
theorem pf_68 : PF 68 := fun _ _ => by kernel_rfl
theorem pf_69 : PF 69 := fun _ _ => by kernel_rfl
theorem pf_70 : PF 70 := fun _ _ => by kernel_rfl
theorem pf_71 : PF 71 := fun _ _ => by kernel_rfl
theorem pf_72 : PF 72 := fun _ _ => by kernel_rfl
theorem pf_73 : PF 73 := fun _ _ => by kernel_rfl
theorem pf_74 : PF 74 := fun _ _ => by kernel_rfl
theorem pf_75 : PF 75 := fun _ _ => by kernel_rfl
theorem pf_76 : PF 76 := fun _ _ => by kernel_rfl
theorem pf_77 : PF 77 := fun _ _ => by kernel_rfl
theorem pf_78 : PF 78 := fun _ _ => by kernel_rfl
theorem pf_79 : PF 79 := fun _ _ => by kernel_rfl
theorem pf_80 : PF 80 := fun _ _ => by kernel_rfl
theorem pf_81 : PF 81 := fun _ _ => by kernel_rfl
theorem pf_82 : PF 82 := fun _ _ => by kernel_rfl
theorem pf_83 : PF 83 := fun _ _ => by kernel_rfl
theorem pf_84 : PF 84 := fun _ _ => by kernel_rfl
theorem pf_85 : PF 85 := fun _ _ => by kernel_rfl
theorem pf_86 : PF 86 := fun _ _ => by kernel_rfl
theorem pf_87 : PF 87 := fun _ _ => by kernel_rfl
theorem pf_88 : PF 88 := fun _ _ => by kernel_rfl
theorem pf_89 : PF 89 := fun _ _ => by kernel_rfl
theorem pf_90 : PF 90 := fun _ _ => by kernel_rfl
theorem pf_91 : PF 91 := fun _ _ => by kernel_rfl
theorem pf_92 : PF 92 := fun _ _ => by kernel_rfl
theorem pf_93 : PF 93 := fun _ _ => by kernel_rfl
theorem pf_94 : PF 94 := fun _ _ => by kernel_rfl
theorem pf_95 : PF 95 := fun _ _ => by kernel_rfl
theorem pf_96 : PF 96 := fun _ _ => by kernel_rfl
theorem pf_97 : PF 97 := fun _ _ => by kernel_rfl
theorem pf_98 : PF 98 := fun _ _ => by kernel_rfl
theorem pf_99 : PF 99 := fun _ _ => by kernel_rfl
theorem pf_100 : PF 100 := fun _ _ => by kernel_rfl
theorem pf_101 : PF 101 := fun _ _ => by kernel_rfl
theorem pf_102 : PF 102 := fun _ _ => by kernel_rfl
theorem pf_103 : PF 103 := fun _ _ => by kernel_rfl
theorem pf_104 : PF 104 := fun _ _ => by kernel_rfl
theorem pf_105 : PF 105 := fun _ _ => by kernel_rfl
theorem pf_106 : PF 106 := fun _ _ => by kernel_rfl
theorem pf_107 : PF 107 := fun _ _ => by kernel_rfl
theorem pf_108 : PF 108 := fun _ _ => by kernel_rfl
theorem pf_109 : PF 109 := fun _ _ => by kernel_rfl
theorem pf_110 : PF 110 := fun _ _ => by kernel_rfl
theorem pf_111 : PF 111 := fun _ _ => by kernel_rfl
theorem pf_112 : PF 112 := fun _ _ => by kernel_rfl
theorem pf_113 : PF 113 := fun _ _ => by kernel_rfl
theorem pf_114 : PF 114 := fun _ _ => by kernel_rfl
theorem pf_115 : PF 115 := fun _ _ => by kernel_rfl
theorem pf_116 : PF 116 := fun _ _ => by kernel_rfl
theorem pf_117 : PF 117 := fun _ _ => by kernel_rfl
theorem pf_118 : PF 118 := fun _ _ => by kernel_rfl
theorem pf_119 : PF 119 := fun _ _ => by kernel_rfl
theorem pf_120 : PF 120 := fun _ _ => by kernel_rfl
theorem pf_121 : PF 121 := fun _ _ => by kernel_rfl
theorem pf_122 : PF 122 := fun _ _ => by kernel_rfl
theorem pf_123 : PF 123 := fun _ _ => by kernel_rfl
theorem pf_124 : PF 124 := fun _ _ => by kernel_rfl
theorem pf_125 : PF 125 := fun _ _ => by kernel_rfl
theorem pf_126 : PF 126 := fun _ _ => by kernel_rfl
theorem pf_127 : PF 127 := fun _ _ => by kernel_rfl
theorem pf_128 : PF 128 := fun _ _ => by kernel_rfl
theorem pf_129 : PF 129 := fun _ _ => by kernel_rfl
theorem pf_130 : PF 130 := fun _ _ => by kernel_rfl
theorem pf_131 : PF 131 := fun _ _ => by kernel_rfl
theorem pf_132 : PF 132 := fun _ _ => by kernel_rfl
theorem pf_133 : PF 133 := fun _ _ => by kernel_rfl
theorem pf_134 : PF 134 := fun _ _ => by kernel_rfl
theorem pf_135 : PF 135 := fun _ _ => by kernel_rfl
theorem pf_136 : PF 136 := fun _ _ => by kernel_rfl
theorem pf_137 : PF 137 := fun _ _ => by kernel_rfl
theorem pf_138 : PF 138 := fun _ _ => by kernel_rfl
theorem pf_139 : PF 139 := fun _ _ => by kernel_rfl
theorem pf_140 : PF 140 := fun _ _ => by kernel_rfl
theorem pf_141 : PF 141 := fun _ _ => by kernel_rfl
theorem pf_142 : PF 142 := fun _ _ => by kernel_rfl
theorem pf_143 : PF 143 := fun _ _ => by kernel_rfl
theorem pf_144 : PF 144 := fun _ _ => by kernel_rfl
theorem pf_145 : PF 145 := fun _ _ => by kernel_rfl
theorem pf_146 : PF 146 := fun _ _ => by kernel_rfl
theorem pf_147 : PF 147 := fun _ _ => by kernel_rfl
theorem pf_148 : PF 148 := fun _ _ => by kernel_rfl
theorem pf_149 : PF 149 := fun _ _ => by kernel_rfl
theorem pf_150 : PF 150 := fun _ _ => by kernel_rfl
theorem pf_151 : PF 151 := fun _ _ => by kernel_rfl
theorem pf_152 : PF 152 := fun _ _ => by kernel_rfl
theorem pf_153 : PF 153 := fun _ _ => by kernel_rfl
theorem pf_154 : PF 154 := fun _ _ => by kernel_rfl
theorem pf_155 : PF 155 := fun _ _ => by kernel_rfl
theorem pf_156 : PF 156 := fun _ _ => by kernel_rfl
theorem pf_157 : PF 157 := fun _ _ => by kernel_rfl
theorem pf_158 : PF 158 := fun _ _ => by kernel_rfl
theorem pf_159 : PF 159 := fun _ _ => by kernel_rfl
theorem pf_160 : PF 160 := fun _ _ => by kernel_rfl
theorem pf_161 : PF 161 := fun _ _ => by kernel_rfl
theorem pf_162 : PF 162 := fun _ _ => by kernel_rfl
theorem pf_163 : PF 163 := fun _ _ => by kernel_rfl
theorem pf_164 : PF 164 := fun _ _ => by kernel_rfl
theorem pf_165 : PF 165 := fun _ _ => by kernel_rfl
theorem pf_166 : PF 166 := fun _ _ => by kernel_rfl
theorem pf_167 : PF 167 := fun _ _ => by kernel_rfl
theorem pf_168 : PF 168 := fun _ _ => by kernel_rfl
theorem pf_169 : PF 169 := fun _ _ => by kernel_rfl
theorem pf_170 : PF 170 := fun _ _ => by kernel_rfl
theorem pf_171 : PF 171 := fun _ _ => by kernel_rfl
theorem pf_172 : PF 172 := fun _ _ => by kernel_rfl
theorem pf_173 : PF 173 := fun _ _ => by kernel_rfl
theorem pf_174 : PF 174 := fun _ _ => by kernel_rfl
theorem pf_175 : PF 175 := fun _ _ => by kernel_rfl
theorem pf_176 : PF 176 := fun _ _ => by kernel_rfl
theorem pf_177 : PF 177 := fun _ _ => by kernel_rfl
theorem pf_178 : PF 178 := fun _ _ => by kernel_rfl
theorem pf_179 : PF 179 := fun _ _ => by kernel_rfl
theorem pf_180 : PF 180 := fun _ _ => by kernel_rfl
theorem pf_181 : PF 181 := fun _ _ => by kernel_rfl
theorem pf_182 : PF 182 := fun _ _ => by kernel_rfl
theorem pf_183 : PF 183 := fun _ _ => by kernel_rfl
theorem pf_184 : PF 184 := fun _ _ => by kernel_rfl
theorem pf_185 : PF 185 := fun _ _ => by kernel_rfl
theorem pf_186 : PF 186 := fun _ _ => by kernel_rfl
theorem pf_187 : PF 187 := fun _ _ => by kernel_rfl
theorem pf_188 : PF 188 := fun _ _ => by kernel_rfl
theorem pf_189 : PF 189 := fun _ _ => by kernel_rfl
theorem pf_190 : PF 190 := fun _ _ => by kernel_rfl
theorem pf_191 : PF 191 := fun _ _ => by kernel_rfl
theorem pf_192 : PF 192 := fun _ _ => by kernel_rfl
theorem pf_193 : PF 193 := fun _ _ => by kernel_rfl
theorem pf_194 : PF 194 := fun _ _ => by kernel_rfl
theorem pf_195 : PF 195 := fun _ _ => by kernel_rfl
theorem pf_196 : PF 196 := fun _ _ => by kernel_rfl
theorem pf_197 : PF 197 := fun _ _ => by kernel_rfl
theorem pf_198 : PF 198 := fun _ _ => by kernel_rfl
theorem pf_199 : PF 199 := fun _ _ => by kernel_rfl
theorem pf_200 : PF 200 := fun _ _ => by kernel_rfl
theorem pf_201 : PF 201 := fun _ _ => by kernel_rfl
theorem pf_202 : PF 202 := fun _ _ => by kernel_rfl
theorem pf_203 : PF 203 := fun _ _ => by kernel_rfl
theorem pf_204 : PF 204 := fun _ _ => by kernel_rfl
theorem pf_205 : PF 205 := fun _ _ => by kernel_rfl
theorem pf_206 : PF 206 := fun _ _ => by kernel_rfl
theorem pf_207 : PF 207 := fun _ _ => by kernel_rfl
theorem pf_208 : PF 208 := fun _ _ => by kernel_rfl
theorem pf_209 : PF 209 := fun _ _ => by kernel_rfl
theorem pf_210 : PF 210 := fun _ _ => by kernel_rfl
theorem pf_211 : PF 211 := fun _ _ => by kernel_rfl
theorem pf_212 : PF 212 := fun _ _ => by kernel_rfl
theorem pf_213 : PF 213 := fun _ _ => by kernel_rfl
theorem pf_214 : PF 214 := fun _ _ => by kernel_rfl
theorem pf_215 : PF 215 := fun _ _ => by kernel_rfl
theorem pf_216 : PF 216 := fun _ _ => by kernel_rfl
theorem pf_217 : PF 217 := fun _ _ => by kernel_rfl
theorem pf_218 : PF 218 := fun _ _ => by kernel_rfl
theorem pf_219 : PF 219 := fun _ _ => by kernel_rfl
theorem pf_220 : PF 220 := fun _ _ => by kernel_rfl
theorem pf_221 : PF 221 := fun _ _ => by kernel_rfl
theorem pf_222 : PF 222 := fun _ _ => by kernel_rfl
theorem pf_223 : PF 223 := fun _ _ => by kernel_rfl
theorem pf_224 : PF 224 := fun _ _ => by kernel_rfl
theorem pf_225 : PF 225 := fun _ _ => by kernel_rfl
theorem pf_226 : PF 226 := fun _ _ => by kernel_rfl
theorem pf_227 : PF 227 := fun _ _ => by kernel_rfl
theorem pf_228 : PF 228 := fun _ _ => by kernel_rfl
theorem pf_229 : PF 229 := fun _ _ => by kernel_rfl
theorem pf_230 : PF 230 := fun _ _ => by kernel_rfl
theorem pf_231 : PF 231 := fun _ _ => by kernel_rfl
theorem pf_232 : PF 232 := fun _ _ => by kernel_rfl
theorem pf_233 : PF 233 := fun _ _ => by kernel_rfl
theorem pf_234 : PF 234 := fun _ _ => by kernel_rfl
theorem pf_235 : PF 235 := fun _ _ => by kernel_rfl
theorem pf_236 : PF 236 := fun _ _ => by kernel_rfl
theorem pf_237 : PF 237 := fun _ _ => by kernel_rfl
theorem pf_238 : PF 238 := fun _ _ => by kernel_rfl
theorem pf_239 : PF 239 := fun _ _ => by kernel_rfl
theorem pf_240 : PF 240 := fun _ _ => by kernel_rfl
theorem pf_241 : PF 241 := fun _ _ => by kernel_rfl
theorem pf_242 : PF 242 := fun _ _ => by kernel_rfl
theorem pf_243 : PF 243 := fun _ _ => by kernel_rfl
theorem pf_244 : PF 244 := fun _ _ => by kernel_rfl
theorem pf_245 : PF 245 := fun _ _ => by kernel_rfl
theorem pf_246 : PF 246 := fun _ _ => by kernel_rfl
theorem pf_247 : PF 247 := fun _ _ => by kernel_rfl
theorem pf_248 : PF 248 := fun _ _ => by kernel_rfl
theorem pf_249 : PF 249 := fun _ _ => by kernel_rfl
theorem pf_250 : PF 250 := fun _ _ => by kernel_rfl
theorem pf_251 : PF 251 := fun _ _ => by kernel_rfl
theorem pf_252 : PF 252 := fun _ _ => by kernel_rfl
theorem pf_253 : PF 253 := fun _ _ => by kernel_rfl
theorem pf_254 : PF 254 := fun _ _ => by kernel_rfl
theorem pf_255 : PF 255 := fun _ _ => by kernel_rfl
theorem pfs_16 : ∀ f, f < 16 → PF f := (pf_succ (pf_succ (pf_succ (pf_succ (pf_succ (pf_succ (pf_succ (pf_succ (pf_succ (pf_succ (pf_succ (pf_succ (pf_succ (pf_succ (pf_succ (pf_succ pf_zero pf_0) pf_1) pf_2) pf_3) pf_4) pf_5) pf_6) pf_7) pf_8) pf_9) pf_10) pf_11) pf_12) pf_13) pf_14) pf_15)
theorem pfs_32 : ∀ f, f < 32 → PF f := (pf_succ (pf_succ (pf_succ (pf_succ (pf_succ (pf_succ (pf_succ (pf_succ (pf_succ (pf_succ (pf_succ (pf_succ (pf_succ (pf_succ (pf_succ (pf_succ pfs_16 pf_16) pf_17) pf_18) pf_19) pf_20) pf_21) pf_22) pf_23) pf_24) pf_25) pf_26) pf_27) pf_28) pf_29) pf_30) pf_31)
theorem pfs_48 : ∀ f, f < 48 → PF f := (pf_succ (pf_succ (pf_succ (pf_succ (pf_succ (pf_succ (pf_succ (pf_succ (pf_succ (pf_succ (pf_succ (pf_succ (pf_succ (pf_succ (pf_succ (pf_succ pfs_32 pf_32) pf_33) pf_34) pf_35) pf_36) pf_37) pf_38) pf_39) pf_40) pf_41) pf_42) pf_43) pf_44) pf_45) pf_46) pf_47)
theorem pfs_64 : ∀ f, f < 64 → PF f := (pf_succ (pf_succ (pf_succ (pf_succ (pf_succ (pf_succ (pf_succ (pf_succ (pf_succ (pf_succ (pf_succ (pf_succ (pf_succ (pf_succ (pf_succ (pf_succ pfs_48 pf_48) pf_49) pf_50) pf_51) pf_52) pf_53) pf_54) pf_55) pf_56) pf_57) pf_58) pf_59) pf_60) pf_61) pf_62) pf_63)
theorem pfs_80 : ∀ f, f < 80 → PF f := (pf_succ (pf_succ (pf_succ (pf_succ (pf_succ (pf_succ (pf_succ (pf_succ (pf_succ (pf_succ (pf_succ (pf_succ (pf_succ (pf_succ (pf_succ (pf_succ pfs_64 pf_64) pf_65) pf_66) pf_67) pf_68) pf_69) pf_70) pf_71) pf_72) pf_73) pf_74) pf_75) pf_76) pf_77) pf_78) pf_79)
theorem pfs_96 : ∀ f, f < 96 → PF f := (pf_succ (pf_succ (pf_succ (pf_succ (pf_succ (pf_succ (pf_succ (pf_succ (pf_succ (pf_succ (pf_succ (pf_succ (pf_succ (pf_succ (pf_succ (pf_succ pfs_80 pf_80) pf_81) pf_82) pf_83) pf_84) pf_85) pf_86) pf_87) pf_88) pf_89) pf_90) pf_91) pf_92) pf_93) pf_94) pf_95)
theorem pfs_112 : ∀ f, f < 112 → PF f := (pf_succ (pf_succ (pf_succ (pf_succ (pf_succ (pf_succ (pf_succ (pf_succ (pf_succ (pf_succ (pf_succ (pf_succ (pf_succ (pf_succ (pf_succ (pf_succ pfs_96 pf_96) pf_97) pf_98) pf_99) pf_100) pf_101) pf_102) pf_103) pf_104) pf_105) pf_106) pf_107) pf_108) pf_109) pf_110) pf_111)
theorem pfs_128 : ∀ f, f < 128 → PF f := (pf_succ (pf_succ (pf_succ (pf_succ (pf_succ (pf_succ (pf_succ (pf_succ (pf_succ (pf_succ (pf_succ (pf_succ (pf_succ (pf_succ (pf_succ (pf_succ pfs_112 pf_112) pf_113) pf_114) pf_115) pf_116) pf_117) pf_118) pf_119) pf_120) pf_121) pf_122) pf_123) pf_124) pf_125) pf_126) pf_127)
theorem pfs_144 : ∀ f, f < 144 → PF f := (pf_succ (pf_succ (pf_succ (pf_succ (pf_succ (pf_succ (pf_succ (pf_succ (pf_succ (pf_succ (pf_succ (pf_succ (pf_succ (pf_succ (pf_succ (pf_succ pfs_128 pf_128) pf_129) pf_130) pf_131) pf_132) pf_133) pf_134) pf_135) pf_136) pf_137) pf_138) pf_139) pf_140) pf_141) pf_142) pf_143)
theorem pfs_160 : ∀ f, f < 160 → PF f := (pf_succ (pf_succ (pf_succ (pf_succ (pf_succ (pf_succ (pf_succ (pf_succ (pf_succ (pf_succ (pf_succ (pf_succ (pf_succ (pf_succ (pf_succ (pf_succ pfs_144 pf_144) pf_145) pf_146) pf_147) pf_148) pf_149) pf_150) pf_151) pf_152) pf_153) pf_154) pf_155) pf_156) pf_157) pf_158) pf_159)
theorem pfs_176 : ∀ f, f < 176 → PF f := (pf_succ (pf_succ (pf_succ (pf_succ (pf_succ (pf_succ (pf_succ (pf_succ (pf_succ (pf_succ (pf_succ (pf_succ (pf_succ (pf_succ (pf_succ (pf_succ pfs_160 pf_160) pf_161) pf_162) pf_163) pf_164) pf_165) pf_166) pf_167) pf_168) pf_169) pf_170) pf_171) pf_172) pf_173) pf_174) pf_175)
theorem pfs_192 : ∀ f, f < 192 → PF f := (pf_succ (pf_succ (pf_succ (pf_succ (pf_succ (pf_succ (pf_succ (pf_succ (pf_succ (pf_succ (pf_succ (pf_succ (pf_succ (pf_succ (pf_succ (pf_succ pfs_176 pf_176) pf_177) pf_178) pf_179) pf_180) pf_181) pf_182) pf_183) pf_184) pf_185) pf_186) pf_187) pf_188) pf_189) pf_190) pf_191)
theorem pfs_208 : ∀ f, f < 208 → PF f := (pf_succ (pf_succ (pf_succ (pf_succ (pf_succ (pf_succ (pf_succ (pf_succ (pf_succ (pf_succ (pf_succ (pf_succ (pf_succ (pf_succ (pf_succ (pf_succ pfs_192 pf_192) pf_193) pf_194) pf_195) pf_196) pf_197) pf_198) pf_199) pf_200) pf_201) pf_202) pf_203) pf_204) pf_205) pf_206) pf_207)
theorem pfs_224 : ∀ f, f < 224 → PF f := (pf_succ (pf_succ (pf_succ (pf_succ (pf_succ (pf_succ (pf_succ (pf_succ (pf_succ (pf_succ (pf_succ (pf_succ (pf_succ (pf_succ (pf_succ (pf_succ pfs_208 pf_208) pf_209) pf_210) pf_211) pf_212) pf_213) pf_214) pf_215) pf_216) pf_217) pf_218) pf_219) pf_220) pf_221) pf_222) pf_223)
theorem pfs_240 : ∀ f, f < 240 → PF f := (pf_succ (pf_succ (pf_succ (pf_succ (pf_succ (pf_succ (pf_succ (pf_succ (pf_succ (pf_succ (pf_succ (pf_succ (pf_succ (pf_succ (pf_succ (pf_succ pfs_224 pf_224) pf_225) pf_226) pf_227) pf_228) pf_229) pf_230) pf_231) pf_232) pf_233) pf_234) pf_235) pf_236) pf_237) pf_238) pf_239)
theorem pfs_256 : ∀ f, f < 256 → PF f := (pf_succ (pf_succ (pf_succ (pf_succ (pf_succ (pf_succ (pf_succ (pf_succ (pf_succ (pf_succ (pf_succ (pf_succ (pf_succ (pf_succ (pf_succ (pf_succ pfs_240 pf_240) pf_241) pf_242) pf_243) pf_244) pf_245) pf_246) pf_247) pf_248) pf_249) pf_250) pf_251) pf_252) pf_253) pf_254) pf_255)

theorem rk_run (m : Int) (f : Nat) (k : Int) : exec (GM m) (cfA m) 92 tl7.fst (stF7 f (.int .u8 k)) = some (.normal, stF8 f (.int .i64 ((IntKind.i64.wrap k).tmod 5))) := by kernel_rfl

theorem rh_all (m : Int) : ((List.range 256).all fun f => (List.range 5).all fun n => endsAt (exec (GM m) (cfA m) 91 tl7.snd.fst (stF8 f (.int .i64 n))) (stF9 (f % 32) n)) = true := by kernel_rfl

def isTrue (r : Option (AV × List Blk)) : Bool := match r with
  | some (.bool true, []) => true
  | _ => false
theorem isTrue_eq {r : Option (AV × List Blk)} (h : isTrue r = true) : r = some (.bool true, []) := by
  unfold isTrue at h
  split at h
  · rfl
  · cases h
def fin (r : Option (Ex × St)) : Option (AV × List Blk) := r.bind fun p => match p.1 with
  | .exit _ => none
  | _ => leave m6 0 p.2

def tl9 : M := tl7.snd.snd.snd.snd
def keyA (w : List UInt8) : AV := .agg [.str [65, 78, 68], .str [], .str [], .int .i64 0, .slice true [.agg [.str w, .str [], .str [], .int .i64 0, .nilslice]]]
def blkM (x : AV) : Blk := .var 45 [.int .i64 1, .int .i64 1, x, .int .i64 0, .nilslice]
def stB (h : List Blk) (n : Nat) (bit : Bool) : St := { fr := [(6, .slice true namesA), (10, .int .i64 n), (8, .mptr 0 0), (11, .bool bit)], base := 0, esc := none, h := h }
def stP (h : List Blk) (u v : List UInt8) (bit : Bool) : St := { fr := [(13, .int .i64 0), (15, .int .i64 0), (8, .mptr 0 0), (12, .mptr h.length 0), (11, .bool bit), (14, .mptr (h.length + 1) 0)], base := 0, esc := none, h := h ++ [.var 30 (match keyA u with | .agg l => l | _ => []), .var 30 (match keyA v with | .agg l => l | _ => [])] }
theorem pA_0 (m : Int) (bit : Bool) : upto (GM m) (cfA m) 2 91 tl7.snd.snd (stB [blkM .nilslice] 0 bit) = some (89, tl9, stP [blkM .nilslice] [65, 78, 83, 87, 69, 82, 69, 68] [85, 78, 65, 78, 83, 87, 69, 82, 69, 68] bit) := by kernel_rfl
theorem pB_0 (m : Int) (bit : Bool) (L : Nat) (es : List AV) : upto (GM m) (cfA m) 2 91 tl7.snd.snd (stB [blkM (.mslice 1 0 L), .arr (some 9) 1 es] 0 bit) = some (89, tl9, stP [blkM (.mslice 1 0 L), .arr (some 9) 1 es] [65, 78, 83, 87, 69, 82, 69, 68] [85, 78, 65, 78, 83, 87, 69, 82, 69, 68] bit) := by kernel_rfl
theorem pA_1 (m : Int) (bit : Bool) : upto (GM m) (cfA m) 2 91 tl7.snd.snd (stB [blkM .nilslice] 1 bit) = some (89, tl9, stP [blkM .nilslice] [68, 69, 76, 69, 84, 69, 68] [85, 78, 68, 69, 76, 69, 84, 69, 68] bit) := by kernel_rfl
theorem pB_1 (m : Int) (bit : Bool) (L : Nat) (es : List AV) : upto (GM m) (cfA m) 2 91 tl7.snd.snd (stB [blkM (.mslice 1 0 L), .arr (some 9) 1 es] 1 bit) = some (89, tl9, stP [blkM (.mslice 1 0 L), .arr (some 9) 1 es] [68, 69, 76, 69, 84, 69, 68] [85, 78, 68, 69, 76, 69, 84, 69, 68] bit) := by kernel_rfl
theorem pA_2 (m : Int) (bit : Bool) : upto (GM m) (cfA m) 2 91 tl7.snd.snd (stB [blkM .nilslice] 2 bit) = some (89, tl9, stP [blkM .nilslice] [68, 82, 65, 70, 84] [85, 78, 68, 82, 65, 70, 84] bit) := by kernel_rfl
theorem pB_2 (m : Int) (bit : Bool) (L : Nat) (es : List AV) : upto (GM m) (cfA m) 2 91 tl7.snd.snd (stB [blkM (.mslice 1 0 L), .arr (some 9) 1 es] 2 bit) = some (89, tl9, stP [blkM (.mslice 1 0 L), .arr (some 9) 1 es] [68, 82, 65, 70, 84] [85, 78, 68, 82, 65, 70, 84] bit) := by kernel_rfl
theorem pA_3 (m : Int) (bit : Bool) : upto (GM m) (cfA m) 2 91 tl7.snd.snd (stB [blkM .nilslice] 3 bit) = some (89, tl9, stP [blkM .nilslice] [70, 76, 65, 71, 71, 69, 68] [85, 78, 70, 76, 65, 71, 71, 69, 68] bit) := by kernel_rfl
theorem pB_3 (m : Int) (bit : Bool) (L : Nat) (es : List AV) : upto (GM m) (cfA m) 2 91 tl7.snd.snd (stB [blkM (.mslice 1 0 L), .arr (some 9) 1 es] 3 bit) = some (89, tl9, stP [blkM (.mslice 1 0 L), .arr (some 9) 1 es] [70, 76, 65, 71, 71, 69, 68] [85, 78, 70, 76, 65, 71, 71, 69, 68] bit) := by kernel_rfl
theorem pA_4 (m : Int) (bit : Bool) : upto (GM m) (cfA m) 2 91 tl7.snd.snd (stB [blkM .nilslice] 4 bit) = some (89, tl9, stP [blkM .nilslice] [83, 69, 69, 78] [85, 78, 83, 69, 69, 78] bit) := by kernel_rfl
theorem pB_4 (m : Int) (bit : Bool) (L : Nat) (es : List AV) : upto (GM m) (cfA m) 2 91 tl7.snd.snd (stB [blkM (.mslice 1 0 L), .arr (some 9) 1 es] 4 bit) = some (89, tl9, stP [blkM (.mslice 1 0 L), .arr (some 9) 1 es] [83, 69, 69, 78] [85, 78, 83, 69, 69, 78] bit) := by kernel_rfl
theorem rest_0_0 (m : Int) : ((List.range 8).all fun f => isTrue (fin (exec (GM m) (cfA m) 89 tl9 (stP (heapF (f + 0)) [65, 78, 83, 87, 69, 82, 69, 68] [85, 78, 65, 78, 83, 87, 69, 82, 69, 68] (bitOf (f + 0) 0))))) = true := by kernel_rfl
theorem rest_0_1 (m : Int) : ((List.range 8).all fun f => isTrue (fin (exec (GM m) (cfA m) 89 tl9 (stP (heapF (f + 8)) [65, 78, 83, 87, 69, 82, 69, 68] [85, 78, 65, 78, 83, 87, 69, 82, 69, 68] (bitOf (f + 8) 0))))) = true := by kernel_rfl
theorem rest_0_2 (m : Int) : ((List.range 8).all fun f => isTrue (fin (exec (GM m) (cfA m) 89 tl9 (stP (heapF (f + 16)) [65, 78, 83, 87, 69, 82, 69, 68] [85, 78, 65, 78, 83, 87, 69, 82, 69, 68] (bitOf (f + 16) 0))))) = true := by kernel_rfl
theorem rest_0_3 (m : Int) : ((List.range 8).all fun f => isTrue (fin (exec (GM m) (cfA m) 89 tl9 (stP (heapF (f + 24)) [65, 78, 83, 87, 69, 82, 69, 68] [85, 78, 65, 78, 83, 87, 69, 82, 69, 68] (bitOf (f + 24) 0))))) = true := by kernel_rfl
theorem rest_1_0 (m : Int) : ((List.range 8).all fun f => isTrue (fin (exec (GM m) (cfA m) 89 tl9 (stP (heapF (f + 0)) [68, 69, 76, 69, 84, 69, 68] [85, 78, 68, 69, 76, 69, 84, 69, 68] (bitOf (f + 0) 1))))) = true := by kernel_rfl
theorem rest_1_1 (m : Int) : ((List.range 8).all fun f => isTrue (fin (exec (GM m) (cfA m) 89 tl9 (stP (heapF (f + 8)) [68, 69, 76, 69, 84, 69, 68] [85, 78, 68, 69, 76, 69, 84, 69, 68] (bitOf (f + 8) 1))))) = true := by kernel_rfl
theorem rest_1_2 (m : Int) : ((List.range 8).all fun f => isTrue (fin (exec (GM m) (cfA m) 89 tl9 (stP (heapF (f + 16)) [68, 69, 76, 69, 84, 69, 68] [85, 78, 68, 69, 76, 69, 84, 69, 68] (bitOf (f + 16) 1))))) = true := by kernel_rfl
theorem rest_1_3 (m : Int) : ((List.range 8).all fun f => isTrue (fin (exec (GM m) (cfA m) 89 tl9 (stP (heapF (f + 24)) [68, 69, 76, 69, 84, 69, 68] [85, 78, 68, 69, 76, 69, 84, 69, 68] (bitOf (f + 24) 1))))) = true := by kernel_rfl
theorem rest_2_0 (m : Int) : ((List.range 8).all fun f => isTrue (fin (exec (GM m) (cfA m) 89 tl9 (stP (heapF (f + 0)) [68, 82, 65, 70, 84] [85, 78, 68, 82, 65, 70, 84] (bitOf (f + 0) 2))))) = true := by kernel_rfl
theorem rest_2_1 (m : Int) : ((List.range 8).all fun f => isTrue (fin (exec (GM m) (cfA m) 89 tl9 (stP (heapF (f + 8)) [68, 82, 65, 70, 84] [85, 78, 68, 82, 65, 70, 84] (bitOf (f + 8) 2))))) = true := by kernel_rfl
theorem rest_2_2 (m : Int) : ((List.range 8).all fun f => isTrue (fin (exec (GM m) (cfA m) 89 tl9 (stP (heapF (f + 16)) [68, 82, 65, 70, 84] [85, 78, 68, 82, 65, 70, 84] (bitOf (f + 16) 2))))) = true := by kernel_rfl
theorem rest_2_3 (m : Int) : ((List.range 8).all fun f => isTrue (fin (exec (GM m) (cfA m) 89 tl9 (stP (heapF (f + 24)) [68, 82, 65, 70, 84] [85, 78, 68, 82, 65, 70, 84] (bitOf (f + 24) 2))))) = true := by kernel_rfl
theorem rest_3_0 (m : Int) : ((List.range 8).all fun f => isTrue (fin (exec (GM m) (cfA m) 89 tl9 (stP (heapF (f + 0)) [70, 76, 65, 71, 71, 69, 68] [85, 78, 70, 76, 65, 71, 71, 69, 68] (bitOf (f + 0) 3))))) = true := by kernel_rfl
theorem rest_3_1 (m : Int) : ((List.range 8).all fun f => isTrue (fin (exec (GM m) (cfA m) 89 tl9 (stP (heapF (f + 8)) [70, 76, 65, 71, 71, 69, 68] [85, 78, 70, 76, 65, 71, 71, 69, 68] (bitOf (f + 8) 3))))) = true := by kernel_rfl
theorem rest_3_2 (m : Int) : ((List.range 8).all fun f => isTrue (fin (exec (GM m) (cfA m) 89 tl9 (stP (heapF (f + 16)) [70, 76, 65, 71, 71, 69, 68] [85, 78, 70, 76, 65, 71, 71, 69, 68] (bitOf (f + 16) 3))))) = true := by kernel_rfl
theorem rest_3_3 (m : Int) : ((List.range 8).all fun f => isTrue (fin (exec (GM m) (cfA m) 89 tl9 (stP (heapF (f + 24)) [70, 76, 65, 71, 71, 69, 68] [85, 78, 70, 76, 65, 71, 71, 69, 68] (bitOf (f + 24) 3))))) = true := by kernel_rfl
theorem rest_4_0 (m : Int) : ((List.range 8).all fun f => isTrue (fin (exec (GM m) (cfA m) 89 tl9 (stP (heapF (f + 0)) [83, 69, 69, 78] [85, 78, 83, 69, 69, 78] (bitOf (f + 0) 4))))) = true := by kernel_rfl
theorem rest_4_1 (m : Int) : ((List.range 8).all fun f => isTrue (fin (exec (GM m) (cfA m) 89 tl9 (stP (heapF (f + 8)) [83, 69, 69, 78] [85, 78, 83, 69, 69, 78] (bitOf (f + 8) 4))))) = true := by kernel_rfl
theorem rest_4_2 (m : Int) : ((List.range 8).all fun f => isTrue (fin (exec (GM m) (cfA m) 89 tl9 (stP (heapF (f + 16)) [83, 69, 69, 78] [85, 78, 83, 69, 69, 78] (bitOf (f + 16) 4))))) = true := by kernel_rfl
theorem rest_4_3 (m : Int) : ((List.range 8).all fun f => isTrue (fin (exec (GM m) (cfA m) 89 tl9 (stP (heapF (f + 24)) [83, 69, 69, 78] [85, 78, 83, 69, 69, 78] (bitOf (f + 24) 4))))) = true := by kernel_rfl

theorem heapF_cases (f : Nat) : heapF f = [blkM .nilslice] ∨ ∃ L es, heapF f = [blkM (.mslice 1 0 L), .arr (some 9) 1 es] := by
  unfold heapF
  cases flagsOf f with
  | nil => exact .inl rfl
  | cons x r => exact .inr ⟨_, _, rfl⟩
theorem fin_0 (m : Int) (f : Nat) (hf : f < 32) : fin (exec (GM m) (cfA m) 91 tl7.snd.snd (stF9 f 0)) = some (.bool true, []) := by
  have hp : exec (GM m) (cfA m) 91 tl7.snd.snd (stF9 f 0) = exec (GM m) (cfA m) 89 tl9 (stP (heapF f) [65, 78, 83, 87, 69, 82, 69, 68] [85, 78, 65, 78, 83, 87, 69, 82, 69, 68] (bitOf f 0)) := by
    rcases heapF_cases f with h | ⟨L, es, h⟩
    · rw [h, show stF9 f 0 = stB [blkM .nilslice] 0 (bitOf f 0) from by unfold stF9; rw [h]; rfl]
      exact upto_eq 2 91 _ _ _ _ _ (pA_0 m _)
    · rw [h, show stF9 f 0 = stB [blkM (.mslice 1 0 L), .arr (some 9) 1 es] 0 (bitOf f 0) from by unfold stF9; rw [h]; rfl]
      exact upto_eq 2 91 _ _ _ _ _ (pB_0 m _ L es)
  rw [hp]
  refine isTrue_eq ?_
  rcases (show f < 8 ∨ (8 ≤ f ∧ f < 16) ∨ (16 ≤ f ∧ f < 24) ∨ (24 ≤ f ∧ f < 32) from by omega) with h | h | h | h
  · exact List.all_eq_true.1 (rest_0_0 m) f (List.mem_range.2 h)
  · obtain ⟨g, rfl⟩ : ∃ g, f = g + 8 := ⟨f - 8, by omega⟩
    exact List.all_eq_true.1 (rest_0_1 m) g (List.mem_range.2 (by omega))
  · obtain ⟨g, rfl⟩ : ∃ g, f = g + 16 := ⟨f - 16, by omega⟩
    exact List.all_eq_true.1 (rest_0_2 m) g (List.mem_range.2 (by omega))
  · obtain ⟨g, rfl⟩ : ∃ g, f = g + 24 := ⟨f - 24, by omega⟩
    exact List.all_eq_true.1 (rest_0_3 m) g (List.mem_range.2 (by omega))
theorem fin_1 (m : Int) (f : Nat) (hf : f < 32) : fin (exec (GM m) (cfA m) 91 tl7.snd.snd (stF9 f 1)) = some (.bool true, []) := by
  have hp : exec (GM m) (cfA m) 91 tl7.snd.snd (stF9 f 1) = exec (GM m) (cfA m) 89 tl9 (stP (heapF f) [68, 69, 76, 69, 84, 69, 68] [85, 78, 68, 69, 76, 69, 84, 69, 68] (bitOf f 1)) := by
    rcases heapF_cases f with h | ⟨L, es, h⟩
    · rw [h, show stF9 f 1 = stB [blkM .nilslice] 1 (bitOf f 1) from by unfold stF9; rw [h]; rfl]
      exact upto_eq 2 91 _ _ _ _ _ (pA_1 m _)
    · rw [h, show stF9 f 1 = stB [blkM (.mslice 1 0 L), .arr (some 9) 1 es] 1 (bitOf f 1) from by unfold stF9; rw [h]; rfl]
      exact upto_eq 2 91 _ _ _ _ _ (pB_1 m _ L es)
  rw [hp]
  refine isTrue_eq ?_
  rcases (show f < 8 ∨ (8 ≤ f ∧ f < 16) ∨ (16 ≤ f ∧ f < 24) ∨ (24 ≤ f ∧ f < 32) from by omega) with h | h | h | h
  · exact List.all_eq_true.1 (rest_1_0 m) f (List.mem_range.2 h)
  · obtain ⟨g, rfl⟩ : ∃ g, f = g + 8 := ⟨f - 8, by omega⟩
    exact List.all_eq_true.1 (rest_1_1 m) g (List.mem_range.2 (by omega))
  · obtain ⟨g, rfl⟩ : ∃ g, f = g + 16 := ⟨f - 16, by omega⟩
    exact List.all_eq_true.1 (rest_1_2 m) g (List.mem_range.2 (by omega))
  · obtain ⟨g, rfl⟩ : ∃ g, f = g + 24 := ⟨f - 24, by omega⟩
    exact List.all_eq_true.1 (rest_1_3 m) g (List.mem_range.2 (by omega))
theorem fin_2 (m : Int) (f : Nat) (hf : f < 32) : fin (exec (GM m) (cfA m) 91 tl7.snd.snd (stF9 f 2)) = some (.bool true, []) := by
  have hp : exec (GM m) (cfA m) 91 tl7.snd.snd (stF9 f 2) = exec (GM m) (cfA m) 89 tl9 (stP (heapF f) [68, 82, 65, 70, 84] [85, 78, 68, 82, 65, 70, 84] (bitOf f 2)) := by
    rcases heapF_cases f with h | ⟨L, es, h⟩
    · rw [h, show stF9 f 2 = stB [blkM .nilslice] 2 (bitOf f 2) from by unfold stF9; rw [h]; rfl]
      exact upto_eq 2 91 _ _ _ _ _ (pA_2 m _)
    · rw [h, show stF9 f 2 = stB [blkM (.mslice 1 0 L), .arr (some 9) 1 es] 2 (bitOf f 2) from by unfold stF9; rw [h]; rfl]
      exact upto_eq 2 91 _ _ _ _ _ (pB_2 m _ L es)
  rw [hp]
  refine isTrue_eq ?_
  rcases (show f < 8 ∨ (8 ≤ f ∧ f < 16) ∨ (16 ≤ f ∧ f < 24) ∨ (24 ≤ f ∧ f < 32) from by omega) with h | h | h | h
  · exact List.all_eq_true.1 (rest_2_0 m) f (List.mem_range.2 h)
  · obtain ⟨g, rfl⟩ : ∃ g, f = g + 8 := ⟨f - 8, by omega⟩
    exact List.all_eq_true.1 (rest_2_1 m) g (List.mem_range.2 (by omega))
  · obtain ⟨g, rfl⟩ : ∃ g, f = g + 16 := ⟨f - 16, by omega⟩
    exact List.all_eq_true.1 (rest_2_2 m) g (List.mem_range.2 (by omega))
  · obtain ⟨g, rfl⟩ : ∃ g, f = g + 24 := ⟨f - 24, by omega⟩
    exact List.all_eq_true.1 (rest_2_3 m) g (List.mem_range.2 (by omega))
theorem fin_3 (m : Int) (f : Nat) (hf : f < 32) : fin (exec (GM m) (cfA m) 91 tl7.snd.snd (stF9 f 3)) = some (.bool true, []) := by
  have hp : exec (GM m) (cfA m) 91 tl7.snd.snd (stF9 f 3) = exec (GM m) (cfA m) 89 tl9 (stP (heapF f) [70, 76, 65, 71, 71, 69, 68] [85, 78, 70, 76, 65, 71, 71, 69, 68] (bitOf f 3)) := by
    rcases heapF_cases f with h | ⟨L, es, h⟩
    · rw [h, show stF9 f 3 = stB [blkM .nilslice] 3 (bitOf f 3) from by unfold stF9; rw [h]; rfl]
      exact upto_eq 2 91 _ _ _ _ _ (pA_3 m _)
    · rw [h, show stF9 f 3 = stB [blkM (.mslice 1 0 L), .arr (some 9) 1 es] 3 (bitOf f 3) from by unfold stF9; rw [h]; rfl]
      exact upto_eq 2 91 _ _ _ _ _ (pB_3 m _ L es)
  rw [hp]
  refine isTrue_eq ?_
  rcases (show f < 8 ∨ (8 ≤ f ∧ f < 16) ∨ (16 ≤ f ∧ f < 24) ∨ (24 ≤ f ∧ f < 32) from by omega) with h | h | h | h
  · exact List.all_eq_true.1 (rest_3_0 m) f (List.mem_range.2 h)
  · obtain ⟨g, rfl⟩ : ∃ g, f = g + 8 := ⟨f - 8, by omega⟩
    exact List.all_eq_true.1 (rest_3_1 m) g (List.mem_range.2 (by omega))
  · obtain ⟨g, rfl⟩ : ∃ g, f = g + 16 := ⟨f - 16, by omega⟩
    exact List.all_eq_true.1 (rest_3_2 m) g (List.mem_range.2 (by omega))
  · obtain ⟨g, rfl⟩ : ∃ g, f = g + 24 := ⟨f - 24, by omega⟩
    exact List.all_eq_true.1 (rest_3_3 m) g (List.mem_range.2 (by omega))
theorem fin_4 (m : Int) (f : Nat) (hf : f < 32) : fin (exec (GM m) (cfA m) 91 tl7.snd.snd (stF9 f 4)) = some (.bool true, []) := by
  have hp : exec (GM m) (cfA m) 91 tl7.snd.snd (stF9 f 4) = exec (GM m) (cfA m) 89 tl9 (stP (heapF f) [83, 69, 69, 78] [85, 78, 83, 69, 69, 78] (bitOf f 4)) := by
    rcases heapF_cases f with h | ⟨L, es, h⟩
    · rw [h, show stF9 f 4 = stB [blkM .nilslice] 4 (bitOf f 4) from by unfold stF9; rw [h]; rfl]
      exact upto_eq 2 91 _ _ _ _ _ (pA_4 m _)
    · rw [h, show stF9 f 4 = stB [blkM (.mslice 1 0 L), .arr (some 9) 1 es] 4 (bitOf f 4) from by unfold stF9; rw [h]; rfl]
      exact upto_eq 2 91 _ _ _ _ _ (pB_4 m _ L es)
  rw [hp]
  refine isTrue_eq ?_
  rcases (show f < 8 ∨ (8 ≤ f ∧ f < 16) ∨ (16 ≤ f ∧ f < 24) ∨ (24 ≤ f ∧ f < 32) from by omega) with h | h | h | h
  · exact List.all_eq_true.1 (rest_4_0 m) f (List.mem_range.2 h)
  · obtain ⟨g, rfl⟩ : ∃ g, f = g + 8 := ⟨f - 8, by omega⟩
    exact List.all_eq_true.1 (rest_4_1 m) g (List.mem_range.2 (by omega))
  · obtain ⟨g, rfl⟩ : ∃ g, f = g + 16 := ⟨f - 16, by omega⟩
    exact List.all_eq_true.1 (rest_4_2 m) g (List.mem_range.2 (by omega))
  · obtain ⟨g, rfl⟩ : ∃ g, f = g + 24 := ⟨f - 24, by omega⟩
    exact List.all_eq_true.1 (rest_4_3 m) g (List.mem_range.2 (by omega))
theorem flags_run (m k f : Int) (hk : 0 ≤ k ∧ k ≤ 255) (hf : 0 ≤ f ∧ f ≤ 255) : call (GM m) orcL envS 100 (fun _ => true) 6 [.int .u8 k, .int .u8 f] [] = some (.bool true, []) := by
  obtain ⟨f, rfl⟩ : ∃ n : Nat, f = n := ⟨f.toNat, by omega⟩
  have hf' : f < 256 := by omega
  rw [call_own (env := envS) (m := m6) rfl, callM_value rfl rfl]
  show fin (exec (GM m) (cfA m) 100 m6.body { fr := enterFr 0 [.int .u8 k, .int .u8 f], base := 0, esc := none, h := [] }) = _
  rw [upto_eq 7 100 _ _ _ _ _ (pfs_256 f hf' m (.int .u8 k))]
  obtain ⟨n, hn, hkn⟩ : ∃ n : Nat, n < 5 ∧ (IntKind.i64.wrap k).tmod 5 = n := by
    have hw : IntKind.i64.wrap k = k := IntWalk.i64_in _ (by omega)
    rw [hw]
    exact ⟨(k.tmod 5).toNat, by rw [Int.tmod_eq_emod_of_nonneg hk.1]; omega, by rw [Int.tmod_eq_emod_of_nonneg hk.1]; omega⟩
  have h1 := rk_run m f k
  rw [hkn] at h1
  have h2 := endsAt_eq (List.all_eq_true.1 (List.all_eq_true.1 (rh_all m) f (List.mem_range.2 hf')) n (List.mem_range.2 hn))
  have e1 : tl7 = .seq tl7.fst (.seq tl7.snd.fst tl7.snd.snd) := rfl
  rw [e1, seq_step h1, seq_step h2]
  have hb : f % 32 < 32 := Nat.mod_lt _ (by decide)
  match n, hn with
  | 0, _ => exact fin_0 m _ hb
  | 1, _ => exact fin_1 m _ hb
  | 2, _ => exact fin_2 m _ hb
  | 3, _ => exact fin_3 m _ hb
  | 4, _ => exact fin_4 m _ hb
end Go.Proofs.YtnnclgadfbaldaaGreatDoor
