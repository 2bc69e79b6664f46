/- The part of our texts, and of the print's, that these laws' proofs use. -/
import Derived.Test.YthkocpcjcpohcaaZC15
section
namespace Go.Proofs.Ythkocpcjcpohcaa.P
open Go Go.RowKit Go.Proofs.YthkocpcjcpohcaaW.PrintWords Go.Proofs.YthkocpcjcpohcaaW.PrintLast Go.Proofs.YthkocpcjcpohcaaW.PrintMore Go.Proofs.Ythkocpcjcpohcaa.U Go.Proofs.Ythkocpcjcpohcaa.Pure
set_option linter.unusedVariables false
set_option linter.unusedSimpArgs false
attribute [local go_sem] max2_int min2_int max_two min_two max_three min_three max_four min_four
noncomputable def rs19_code : Code := ((Try.f13.body).bind (regionIn 19)).getD .skip
set_option maxHeartbeats 16000000 in
set_option maxRecDepth 1000000 in
theorem rs19 {c0 c2 c3 c4 c5 c7 c8 c9 c10 c11 c12 c13 c14 c15 c16 c17 c18 c19 c20 c21 c22 c23 c24 c25 c26 c27 c28 c29 c30 c31 c32 c33 c34 c35 c36 c37 c38 c39 c40 c41 c42 c43 c44 c45 c46 c47 c48 c49 c50 c51 c52 c53 c54 c55 c56 c57 c58 c59 c60 c61 c62 c63 c64 c65 c66 c67 c68 c69 c70 c71 c72 c73 c74 c75 c76 c77 c78 c79 c80 c81 c82 c83 c84 c85 c86 c87 c88 c89 c90 c91 c92 c93 c94 c95 c96 c97 c98 c99 c100 c101 c102 c103 c104 c105 c106 c107 c108 c109 c110 c111 c112 c113 c114 c115 c116 c117 c118 c119 c120 c121 c122 c123 c124 c125 c126 c127 c128 c129 c130 c131 c132 c133 c134 c135 c136 c137 c138 c139 c140 c141 c142 c143 c144 c145 c146 c147 c148 c149 c150 c151 c152 c153 c154 c155 c156 c157 c158 c159 c160 c161 c162 c163 c164 c165 c166 c167 c168 c169 c170 c171 c172 c173 c174 c175 c176 c177 c178 c179 c180 c181 c182 c183 c184 c185 c186 c187 c188 c189 c190 c191 c192 c193 c194 c195 c196 c197 c198 c199 c200 c201 c202 c203 c204 c205 c206 c207 c208 c209 c210 c211 c212 c213 c214 c215 c216 c217 c218 c219 c220 c221 c222 c223 c224 c225 c226 c227 c228 c229 c230 c231 c232 c233 c234 c235 c236 c237 c238 c239 c240 c241 c242 c243 c244 c245 c246 c247 c248 c249 c250 c251 c252 c253 c254 c255 c256 c257 c258 c259 c260 c261 c262 c263 c264 c265 c266 c267 c268 c269 c270 c271 c272 c273 c274 c275 c276 c277 c278 c279 c280 c281 c282 c283 c284 c285 c286 c287 c288 c289 c290 c291 c292 c293 c294 c295 c296 c297 c298 c299 c300 c301 c302 c303 c304 c305 c306 c307 c308 c309 c310 c311 c312 c313 c314 c315 c316 c317 c318 c319 c320 c321 c322 c323 c324 c325 c326 c327 c328 c329 c330 c331 c332 c333 c334 c335 c336 c337 c338 c339 c340 c341 c342 c343 c344 c345 c346 c347 c348 c349 c350 c351 c352 c353 c354 c355 c356 c357 c358 c359 c360 c361 c362 c363 c364 c365 c366 c367 c368 c369 c370 : Value} {Q : Exit → Act → World → Prop} (y : Dc) (x : Fr) (w w2 : World) (g gf : Nat) (R : Asrt) {B1 B2 B3 B4 B5 : Option Addr} {d1 d2 d3 d4 d5 : Nat} {A8 A9 A10 : Option Addr} {p8 p9 p10 : Nat} (HAL : Aside0 (St w w2 (Asrt.blk gf 44 #[.int .i64 x.f0, .int .i64 x.f1, .int .i64 x.f2, .int .i64 x.f3, .int .i64 x.f4, .bool x.f5, .bool x.f6, .int .i64 x.f7, .slice A8 x.f8.length p8, .slice A9 x.f9.length p9, .slice A10 x.f10.length p10] * (Asrt.blk g 27 #[.bool false, .int .i64 y.f1, .int .i64 y.f2, .bool y.f3, .bool y.f4, .int .u32 y.f5, .int .i64 y.f6, .slice B1 y.f7.length d1, .slice B2 y.f8.length d2, .slice B3 y.f9.length d3, .bool y.f10, .bool y.f11, .bool y.f12, .slice B4 y.f13.length d4, .slice B5 y.f14.length d5] * R)))) (HC : Aside0 (wideP y)) (hx2 : i64r x.f2) (hx3 : i64r x.f3) (HKD : Aside0 (∀ W : World, Below w.heap.size w W → Calls Try.prog 31 #[.agg #[.int .i64 x.f0, .int .i64 x.f1, .int .i64 x.f2, .int .i64 x.f3, .int .i64 x.f4, .bool x.f5, .bool x.f6, .int .i64 x.f7, .slice A8 x.f8.length p8, .slice A9 x.f9.length p9, .slice A10 x.f10.length p10]] W fun e w' => e = .returned (.bool (kindB x)) ∧ Below W.heap.size W w')) (HMX : Aside0 (∀ W : World, Below w.heap.size w W → Calls Try.prog 32 #[.slice A10 x.f10.length p10] W fun e w' => e = .returned (.bool (moreB x.f10)) ∧ Below W.heap.size W w'))
    (hK : ∀ (v u250 u251 u252 u253 u254 u255 u256 u257 u258 u259 u260 u261 u262 u263 u264 u265 u266 u267 u268 u269 u270 u271 u272 u273 u274 u275 u276 u277 u278 u279 u280 u281 u282 u283 u284 u285 u286 u287 u288 u289 u290 u291 u292 u293 u294 u295 u296 u297 u298 u299 u300 u301 u302 u303 u304 u305 u306 u307 u308 u309 u310 u311 u312 u313 u314 u315 u316 u317 u318 u319 u320 u321 u322 u323 u324 u325 u326 u327 u328 u329 u330 u331 u332 u333 : Value) (wc : World), (∃ t : Bool, v = .bool t ∧ (t = false ↔ sideQ x y) ∧ St w wc (Asrt.blk gf 44 #[.int .i64 x.f0, .int .i64 x.f1, .int .i64 x.f2, .int .i64 x.f3, .int .i64 x.f4, .bool x.f5, .bool x.f6, .int .i64 x.f7, .slice A8 x.f8.length p8, .slice A9 x.f9.length p9, .slice A10 x.f10.length p10] * (Asrt.blk g 27 #[.bool false, .int .i64 y.f1, .int .i64 y.f2, .bool y.f3, .bool y.f4, .int .u32 y.f5, .int .i64 y.f6, .slice B1 y.f7.length d1, .slice B2 y.f8.length d2, .slice B3 y.f9.length d3, .bool y.f10, .bool y.f11, .bool y.f12, .slice B4 y.f13.length d4, .slice B5 y.f14.length d5] * R))) → Q .normal ⟨#[c0, Value.pointer (some ⟨g, 0, none⟩), c2, c3, c4, c5, Value.pointer (some ⟨gf, 0, none⟩), c7, c8, c9, c10, c11, c12, c13, c14, c15, c16, c17, c18, c19, c20, c21, c22, c23, c24, c25, c26, c27, c28, c29, c30, c31, c32, c33, c34, c35, c36, c37, c38, c39, c40, c41, c42, c43, c44, c45, c46, c47, c48, c49, c50, c51, c52, c53, c54, c55, c56, c57, c58, c59, c60, c61, c62, c63, c64, c65, c66, c67, c68, c69, c70, c71, c72, c73, c74, c75, c76, c77, c78, c79, c80, c81, c82, c83, c84, c85, c86, c87, c88, c89, c90, c91, c92, c93, c94, c95, c96, c97, c98, c99, c100, c101, c102, c103, c104, c105, c106, c107, c108, c109, c110, c111, c112, c113, c114, c115, c116, c117, c118, c119, c120, c121, c122, c123, c124, c125, c126, c127, c128, c129, c130, c131, c132, c133, c134, c135, c136, c137, c138, c139, c140, c141, c142, c143, c144, c145, c146, c147, c148, c149, c150, c151, c152, c153, c154, c155, c156, c157, c158, c159, c160, c161, c162, c163, c164, c165, c166, c167, c168, c169, c170, c171, c172, c173, c174, c175, c176, c177, c178, c179, c180, c181, c182, c183, c184, c185, c186, c187, c188, c189, c190, c191, c192, c193, c194, c195, c196, c197, c198, c199, c200, c201, c202, c203, c204, c205, c206, c207, c208, c209, c210, c211, c212, c213, c214, c215, c216, c217, c218, c219, c220, c221, c222, c223, c224, c225, c226, c227, c228, c229, c230, c231, c232, c233, c234, c235, c236, c237, c238, c239, c240, c241, c242, c243, c244, c245, c246, c247, c248, c249, u250, u251, u252, u253, u254, u255, u256, u257, u258, u259, u260, u261, u262, u263, u264, u265, u266, u267, u268, u269, u270, u271, u272, u273, u274, u275, u276, u277, u278, u279, u280, u281, u282, u283, u284, u285, u286, u287, u288, u289, u290, u291, u292, u293, u294, u295, u296, u297, u298, u299, u300, u301, u302, u303, u304, u305, u306, u307, u308, u309, u310, u311, u312, u313, u314, u315, u316, u317, u318, u319, u320, u321, u322, u323, u324, u325, u326, u327, u328, u329, u330, u331, u332, u333, v, c335, c336, c337, c338, c339, c340, c341, c342, c343, c344, c345, c346, c347, c348, c349, c350, c351, c352, c353, c354, c355, c356, c357, c358, c359, c360, c361, c362, c363, c364, c365, c366, c367, c368, c369, c370], []⟩ wc) :
    Code.wp Try.prog rs19_code Q ⟨#[c0, Value.pointer (some ⟨g, 0, none⟩), c2, c3, c4, c5, Value.pointer (some ⟨gf, 0, none⟩), c7, c8, c9, c10, c11, c12, c13, c14, c15, c16, c17, c18, c19, c20, c21, c22, c23, c24, c25, c26, c27, c28, c29, c30, c31, c32, c33, c34, c35, c36, c37, c38, c39, c40, c41, c42, c43, c44, c45, c46, c47, c48, c49, c50, c51, c52, c53, c54, c55, c56, c57, c58, c59, c60, c61, c62, c63, c64, c65, c66, c67, c68, c69, c70, c71, c72, c73, c74, c75, c76, c77, c78, c79, c80, c81, c82, c83, c84, c85, c86, c87, c88, c89, c90, c91, c92, c93, c94, c95, c96, c97, c98, c99, c100, c101, c102, c103, c104, c105, c106, c107, c108, c109, c110, c111, c112, c113, c114, c115, c116, c117, c118, c119, c120, c121, c122, c123, c124, c125, c126, c127, c128, c129, c130, c131, c132, c133, c134, c135, c136, c137, c138, c139, c140, c141, c142, c143, c144, c145, c146, c147, c148, c149, c150, c151, c152, c153, c154, c155, c156, c157, c158, c159, c160, c161, c162, c163, c164, c165, c166, c167, c168, c169, c170, c171, c172, c173, c174, c175, c176, c177, c178, c179, c180, c181, c182, c183, c184, c185, c186, c187, c188, c189, c190, c191, c192, c193, c194, c195, c196, c197, c198, c199, c200, c201, c202, c203, c204, c205, c206, c207, c208, c209, c210, c211, c212, c213, c214, c215, c216, c217, c218, c219, c220, c221, c222, c223, c224, c225, c226, c227, c228, c229, c230, c231, c232, c233, c234, c235, c236, c237, c238, c239, c240, c241, c242, c243, c244, c245, c246, c247, c248, c249, c250, c251, c252, c253, c254, c255, c256, c257, c258, c259, c260, c261, c262, c263, c264, c265, c266, c267, c268, c269, c270, c271, c272, c273, c274, c275, c276, c277, c278, c279, c280, c281, c282, c283, c284, c285, c286, c287, c288, c289, c290, c291, c292, c293, c294, c295, c296, c297, c298, c299, c300, c301, c302, c303, c304, c305, c306, c307, c308, c309, c310, c311, c312, c313, c314, c315, c316, c317, c318, c319, c320, c321, c322, c323, c324, c325, c326, c327, c328, c329, c330, c331, c332, c333, c334, c335, c336, c337, c338, c339, c340, c341, c342, c343, c344, c345, c346, c347, c348, c349, c350, c351, c352, c353, c354, c355, c356, c357, c358, c359, c360, c361, c362, c363, c364, c365, c366, c367, c368, c369, c370], []⟩ w2 := by
  have HK := Aside0.mk hK
  clear hK
  conv => arg 2; whnf
  have hcc := HC.out
  unfold wideP at hcc
  unfold i64r at hx2 hx3
  have w1 : ¬ x.f2 < 1 → IntKind.i64.wrap (y.f1 - x.f2) = y.f1 - x.f2 := fun h => wi64 (by omega) (by omega)
  have w2' : ¬ x.f3 < 1 → IntKind.i64.wrap (y.f2 - x.f3) = y.f2 - x.f3 := fun h => wi64 (by omega) (by omega)
  clear hcc hx2 hx3
  have z := fun i => HAL.out.swap.cell i
  have zf := fun i => HAL.out.cell i
  simp only [List.append_eq, List.cons_append, List.nil_append]
  go_wp2_with (first
    | (go_at_call 31; with_reducible refine (HKD.out _ HAL.out.below).mono ?_; rintro e w3 ⟨rfl, hb⟩; have HS1 := Aside0.mk (HAL.out.belowR hb); have zf1 := fun i => HS1.out.cell i; clear hb)
    | (go_at_call 32; with_reducible refine (HMX.out _ HS1.out.below).mono ?_; rintro e w4 ⟨rfl, hb⟩; have HS2 := Aside0.mk (HS1.out.belowR hb); clear hb))
  all_goals apply HK.out
  all_goals clear w1 w2' HK HKD HMX
  all_goals (refine ⟨_, rfl, ?_, by first | exact HS2.out | exact HS1.out | exact HAL.out⟩; unfold sideQ sidesP; first | (simp [*]; done) | (simp [*]; omega) | trace_state)
noncomputable def rs21_code : Code := ((Try.f13.body).bind (regionIn 21)).getD .skip
set_option maxHeartbeats 16000000 in
set_option maxRecDepth 1000000 in
theorem rs21 {c0 c2 c3 c4 c5 c7 c8 c9 c10 c11 c12 c13 c14 c15 c16 c17 c18 c19 c20 c21 c22 c23 c24 c25 c26 c27 c28 c29 c30 c31 c32 c33 c34 c35 c36 c37 c38 c39 c40 c41 c42 c43 c44 c45 c46 c47 c48 c49 c50 c51 c52 c53 c54 c55 c56 c57 c58 c59 c60 c61 c62 c63 c64 c65 c66 c67 c68 c69 c70 c71 c72 c73 c74 c75 c76 c77 c78 c79 c80 c81 c82 c83 c84 c85 c86 c87 c88 c89 c90 c91 c92 c93 c94 c95 c96 c97 c98 c99 c100 c101 c102 c103 c104 c105 c106 c107 c108 c109 c110 c111 c112 c113 c114 c115 c116 c117 c118 c119 c120 c121 c122 c123 c124 c125 c126 c127 c128 c129 c130 c131 c132 c133 c134 c135 c136 c137 c138 c139 c140 c141 c142 c143 c144 c145 c146 c147 c148 c149 c150 c151 c152 c153 c154 c155 c156 c157 c158 c159 c160 c161 c162 c163 c164 c165 c166 c167 c168 c169 c170 c171 c172 c173 c174 c175 c176 c177 c178 c179 c180 c181 c182 c183 c184 c185 c186 c187 c188 c189 c190 c191 c192 c193 c194 c195 c196 c197 c198 c199 c200 c201 c202 c203 c204 c205 c206 c207 c208 c209 c210 c211 c212 c213 c214 c215 c216 c217 c218 c219 c220 c221 c222 c223 c224 c225 c226 c227 c228 c229 c230 c231 c232 c233 c234 c235 c236 c237 c238 c239 c240 c241 c242 c243 c244 c245 c246 c247 c248 c249 c250 c251 c252 c253 c254 c255 c256 c257 c258 c259 c260 c261 c262 c263 c264 c265 c266 c267 c268 c269 c270 c271 c272 c273 c274 c275 c276 c277 c278 c279 c280 c281 c282 c283 c284 c285 c286 c287 c288 c289 c290 c291 c292 c293 c294 c295 c296 c297 c298 c299 c300 c301 c302 c303 c304 c305 c306 c307 c308 c309 c310 c311 c312 c313 c314 c315 c316 c317 c318 c319 c320 c321 c322 c323 c324 c325 c326 c327 c328 c329 c330 c331 c332 c333 c334 c335 c336 c337 c338 c339 c340 c341 c342 c343 c344 c345 c346 c347 c348 c349 c350 c351 c352 c353 c354 c355 c356 c357 c358 c359 c360 c361 c362 c363 c364 c365 c366 c367 c368 c369 c370 : Value} {Q : Exit → Act → World → Prop} (y : Dc) (x : Fr) (w w2 : World) (g gf : Nat) (R : Asrt) {B1 B2 B3 B4 B5 : Option Addr} {d1 d2 d3 d4 d5 : Nat} {A8 A9 A10 : Option Addr} {p8 p9 p10 : Nat} (HS3 : Aside0 (St w w2 (Asrt.blk gf 44 #[.int .i64 x.f0, .int .i64 x.f1, .int .i64 x.f2, .int .i64 x.f3, .int .i64 x.f4, .bool x.f5, .bool x.f6, .int .i64 x.f7, .slice A8 x.f8.length p8, .slice A9 x.f9.length p9, .slice A10 x.f10.length p10] * (Asrt.blk g 27 #[.bool false, .int .i64 y.f1, .int .i64 y.f2, .bool y.f3, .bool y.f4, .int .u32 y.f5, .int .i64 y.f6, .slice B1 y.f7.length d1, .slice B2 y.f8.length d2, .slice B3 y.f9.length d3, .bool y.f10, .bool y.f11, .bool y.f12, .slice B4 y.f13.length d4, .slice B5 y.f14.length d5] * R))))
    (hK : ∀ (v u335 u336 u337 u338 u339 u340 u341 u342 u343 u344 u345 u346 u347 u348 u349 u350 u351 u352 u353 u354 u355 u356 u357 u358 u359 u360 u361 u362 u363 u364 u365 u366 u367 u368 u369 : Value) (wc : World), (∃ t : Bool, v = .bool t ∧ (t = false ↔ standQ x y) ∧ St w wc (Asrt.blk gf 44 #[.int .i64 x.f0, .int .i64 x.f1, .int .i64 x.f2, .int .i64 x.f3, .int .i64 x.f4, .bool x.f5, .bool x.f6, .int .i64 x.f7, .slice A8 x.f8.length p8, .slice A9 x.f9.length p9, .slice A10 x.f10.length p10] * (Asrt.blk g 27 #[.bool false, .int .i64 y.f1, .int .i64 y.f2, .bool y.f3, .bool y.f4, .int .u32 y.f5, .int .i64 y.f6, .slice B1 y.f7.length d1, .slice B2 y.f8.length d2, .slice B3 y.f9.length d3, .bool y.f10, .bool y.f11, .bool y.f12, .slice B4 y.f13.length d4, .slice B5 y.f14.length d5] * R))) → Q .normal ⟨#[c0, Value.pointer (some ⟨g, 0, none⟩), c2, c3, c4, c5, Value.pointer (some ⟨gf, 0, none⟩), c7, c8, c9, c10, c11, c12, c13, c14, c15, c16, c17, c18, c19, c20, c21, c22, c23, c24, c25, c26, c27, c28, c29, c30, c31, c32, c33, c34, c35, c36, c37, c38, c39, c40, c41, c42, c43, c44, c45, c46, c47, c48, c49, c50, c51, c52, c53, c54, c55, c56, c57, c58, c59, c60, c61, c62, c63, c64, c65, c66, c67, c68, c69, c70, c71, c72, c73, c74, c75, c76, c77, c78, c79, c80, c81, c82, c83, c84, c85, c86, c87, c88, c89, c90, c91, c92, c93, c94, c95, c96, c97, c98, c99, c100, c101, c102, c103, c104, c105, c106, c107, c108, c109, c110, c111, c112, c113, c114, c115, c116, c117, c118, c119, c120, c121, c122, c123, c124, c125, c126, c127, c128, c129, c130, c131, c132, c133, c134, c135, c136, c137, c138, c139, c140, c141, c142, c143, c144, c145, c146, c147, c148, c149, c150, c151, c152, c153, c154, c155, c156, c157, c158, c159, c160, c161, c162, c163, c164, c165, c166, c167, c168, c169, c170, c171, c172, c173, c174, c175, c176, c177, c178, c179, c180, c181, c182, c183, c184, c185, c186, c187, c188, c189, c190, c191, c192, c193, c194, c195, c196, c197, c198, c199, c200, c201, c202, c203, c204, c205, c206, c207, c208, c209, c210, c211, c212, c213, c214, c215, c216, c217, c218, c219, c220, c221, c222, c223, c224, c225, c226, c227, c228, c229, c230, c231, c232, c233, c234, c235, c236, c237, c238, c239, c240, c241, c242, c243, c244, c245, c246, c247, c248, c249, c250, c251, c252, c253, c254, c255, c256, c257, c258, c259, c260, c261, c262, c263, c264, c265, c266, c267, c268, c269, c270, c271, c272, c273, c274, c275, c276, c277, c278, c279, c280, c281, c282, c283, c284, c285, c286, c287, c288, c289, c290, c291, c292, c293, c294, c295, c296, c297, c298, c299, c300, c301, c302, c303, c304, c305, c306, c307, c308, c309, c310, c311, c312, c313, c314, c315, c316, c317, c318, c319, c320, c321, c322, c323, c324, c325, c326, c327, c328, c329, c330, c331, c332, c333, c334, u335, u336, u337, u338, u339, u340, u341, u342, u343, u344, u345, u346, u347, u348, u349, u350, u351, u352, u353, u354, u355, u356, u357, u358, u359, u360, u361, u362, u363, u364, u365, u366, u367, u368, u369, v], []⟩ wc) :
    Code.wp Try.prog rs21_code Q ⟨#[c0, Value.pointer (some ⟨g, 0, none⟩), c2, c3, c4, c5, Value.pointer (some ⟨gf, 0, none⟩), c7, c8, c9, c10, c11, c12, c13, c14, c15, c16, c17, c18, c19, c20, c21, c22, c23, c24, c25, c26, c27, c28, c29, c30, c31, c32, c33, c34, c35, c36, c37, c38, c39, c40, c41, c42, c43, c44, c45, c46, c47, c48, c49, c50, c51, c52, c53, c54, c55, c56, c57, c58, c59, c60, c61, c62, c63, c64, c65, c66, c67, c68, c69, c70, c71, c72, c73, c74, c75, c76, c77, c78, c79, c80, c81, c82, c83, c84, c85, c86, c87, c88, c89, c90, c91, c92, c93, c94, c95, c96, c97, c98, c99, c100, c101, c102, c103, c104, c105, c106, c107, c108, c109, c110, c111, c112, c113, c114, c115, c116, c117, c118, c119, c120, c121, c122, c123, c124, c125, c126, c127, c128, c129, c130, c131, c132, c133, c134, c135, c136, c137, c138, c139, c140, c141, c142, c143, c144, c145, c146, c147, c148, c149, c150, c151, c152, c153, c154, c155, c156, c157, c158, c159, c160, c161, c162, c163, c164, c165, c166, c167, c168, c169, c170, c171, c172, c173, c174, c175, c176, c177, c178, c179, c180, c181, c182, c183, c184, c185, c186, c187, c188, c189, c190, c191, c192, c193, c194, c195, c196, c197, c198, c199, c200, c201, c202, c203, c204, c205, c206, c207, c208, c209, c210, c211, c212, c213, c214, c215, c216, c217, c218, c219, c220, c221, c222, c223, c224, c225, c226, c227, c228, c229, c230, c231, c232, c233, c234, c235, c236, c237, c238, c239, c240, c241, c242, c243, c244, c245, c246, c247, c248, c249, c250, c251, c252, c253, c254, c255, c256, c257, c258, c259, c260, c261, c262, c263, c264, c265, c266, c267, c268, c269, c270, c271, c272, c273, c274, c275, c276, c277, c278, c279, c280, c281, c282, c283, c284, c285, c286, c287, c288, c289, c290, c291, c292, c293, c294, c295, c296, c297, c298, c299, c300, c301, c302, c303, c304, c305, c306, c307, c308, c309, c310, c311, c312, c313, c314, c315, c316, c317, c318, c319, c320, c321, c322, c323, c324, c325, c326, c327, c328, c329, c330, c331, c332, c333, c334, c335, c336, c337, c338, c339, c340, c341, c342, c343, c344, c345, c346, c347, c348, c349, c350, c351, c352, c353, c354, c355, c356, c357, c358, c359, c360, c361, c362, c363, c364, c365, c366, c367, c368, c369, c370], []⟩ w2 := by
  have HK := Aside0.mk hK
  clear hK
  conv => arg 2; whnf
  have z := fun i => HS3.out.swap.cell i
  have zf := fun i => HS3.out.cell i
  go_wp2_with fail
  all_goals apply HK.out
  all_goals (refine ⟨_, rfl, ?_, HS3.out⟩; clear z zf HK; unfold standQ; first | (simp [*]; done) | (rw [nlenC x.f10]; simp only [*, or_true, true_or, or_false, false_or, and_true, true_and, not_true_eq_false, not_false_eq_true, and_false, false_and, decide_eq_false_iff_not, Bool.true_eq_false, Bool.false_eq_true, iff_false, iff_true, iff_self, decide_true, decide_false, reduceCtorEq, forall_const, true_implies, imp_false, not_and]; done) | trace_state)
end Go.Proofs.Ythkocpcjcpohcaa.P
end
section
namespace Go.Proofs.Ythkocpcjcpohcaa.P
open Go Go.RowKit Go.Proofs.YthkocpcjcpohcaaW.PrintWords Go.Proofs.YthkocpcjcpohcaaW.PrintLast Go.Proofs.YthkocpcjcpohcaaW.PrintMore Go.Proofs.Ythkocpcjcpohcaa.U Go.Proofs.Ythkocpcjcpohcaa.Pure
set_option linter.unusedVariables false
set_option linter.unusedSimpArgs false
attribute [local go_sem] max2_int min2_int max_two min_two max_three min_three max_four min_four
set_option maxHeartbeats 16000000 in
set_option maxRecDepth 1000000 in
theorem refSoundW_calls (y : Dc) (ds : List Value) (w : World) (hy : k27.K w y ds) (ho : okDc y) (hn : smallN y < 20000) (h0 : y.f0 = false) (b : Bool) (hb : b = true ↔ soundP y) :
    Calls Try.prog 13 #[.agg ds.toArray] w fun e w' => e = .returned (.bool b) ∧ Below w.heap.size w w' := by
  rw [sound_rest hn] at hb
  have HWT := Aside0.mk fun (W : World) (hb : Below w.heap.size w W) => rweight_calls y ds W (k27.K_below hb hy) ho hn
  obtain ⟨B1, d1, B2, d2, B3, d3, B4, d4, B5, d5, rfl, m1, h1, m2, h2, m3, h3, m4, h4, m5, h5⟩ := k27_open hy
  have HBB := Aside0.mk hb
  have hlens : y.f7.length < 20000 ∧ y.f8.length < 20000 ∧ y.f9.length < 20000 ∧ y.f13.length ≤ 1000 ∧ y.f14.length ≤ 1000 := by unfold smallN at hn; omega
  have HO := Aside0.mk ho
  have HMO := Aside0.mk fun (W : World) (hb : Below w.heap.size w W) => rmore_calls B5 d5 y.f14 W ho.mo (Kd.C_below h5 hb) m5
  have H4 := Aside0.mk h4
  have HS0 := Aside0.mk ((St.refl w).alloc #[.bool y.f0, .int .i64 y.f1, .int .i64 y.f2, .bool y.f3, .bool y.f4, .int .u32 y.f5, .int .i64 y.f6, .slice B1 y.f7.length d1, .slice B2 y.f8.length d2, .slice B3 y.f9.length d3, .bool y.f10, .bool y.f11, .bool y.f12, .slice B4 y.f13.length d4, .slice B5 y.f14.length d5] 27)
  have f13 : decide ((4096 : Int) < y.f13.length) = false := decide_eq_false (by omega)
  have f13b : decide (4096 < y.f13.length) = false := decide_eq_false (by omega)
  clear hy h1 h2 h3 h4 h5 ho hn hb
  have hbp := HBB.out
  unfold restP at hbp
  rw [if_neg (by rw [h0]; simp)] at hbp
  have HPI := Aside0.mk hbp
  have hW1 := HO.out.i1
  have hW2 := HO.out.i2
  rw [h0] at HS0 HWT ⊢
  clear h0 HBB hbp
  by_cases hc : wideP y
  case neg =>
    have HN : Aside0 (b = false) := ⟨Bool.eq_false_iff.2 fun hbt => hc (HPI.out.1 hbt).1⟩
    have hc' : (decide (y.f1 < 1) = true) ∨ (decide (y.f1 < 1) = false ∧ decide (16777216 < y.f1) = true) ∨ (decide (y.f2 < 1) = true) ∨ (decide (y.f2 < 1) = false ∧ decide (16777216 < y.f2) = true) := by
      unfold wideP at hc
      simp only [decide_eq_true_iff, decide_eq_false_iff_not]
      omega
    clear hc hlens HMO
    rcases hc' with hc' | ⟨hc1, hc'⟩ | hc' | ⟨hc1, hc'⟩
    all_goals go_enter Try.func13, Try.ntmps13
    all_goals go_upto_region 1 with (fail)
    all_goals generalize w.alloc (.cells _ 27) = W1 at HS0 ⊢
    all_goals generalize w.heap.size = g at HS0 ⊢
    all_goals have z := fun i => HS0.out.cell i
    all_goals go_upto_region 9 with (go_at_call 30; refine (HWT.out _ HS0.out.below).mono ?_; rintro e w2 ⟨nw, rfl, hw, hb⟩; have HS1 := Aside0.mk (HS0.out.belowR hb); have z1 := fun i => HS1.out.cell i; have u1 : decide ((67108864 : Int) < (nw : Int)) = false := decide_eq_false (by omega); have u2 : decide (67108864 < nw) = false := decide_eq_false (by omega); clear hw hb)
    all_goals clear z
    all_goals go_wp2_with fail
    all_goals go_ret
    all_goals rw [HN.out]
    all_goals exact ⟨rfl, HS1.out.below⟩
  have HC := Aside0.mk hc
  have HLN := Aside0.mk hlens
  clear hc hlens hW1 hW2
  go_enter Try.func13, Try.ntmps13
  go_upto_region 1 with (fail)
  generalize w.alloc (.cells _ 27) = W1 at HS0 ⊢
  generalize w.heap.size = g at HS0 ⊢
  have z := fun i => HS0.out.cell i
  go_upto_region 9 with (go_at_call 30; refine (HWT.out _ HS0.out.below).mono ?_; rintro e w2 ⟨nw, rfl, hw, hb⟩; have HS1 := Aside0.mk (HS0.out.belowR hb); have z1 := fun i => HS1.out.cell i; have u1 : decide ((67108864 : Int) < (nw : Int)) = false := decide_eq_false (by omega); have u2 : decide (67108864 < nw) = false := decide_eq_false (by omega); clear hw hb)
  clear z z1 HS0 HWT u1 u2 f13 f13b
  refine rs9 y w _ g _ HS1 HC HMO ?_
  intro v u146 u147 u148 u149 u150 u151 u152 u153 u154 u155 u156 u157 u158 u159 u160 u161 u162 u163 u164 u165 u166 u167 u168 u169 u170 u171 u172 u173 u174 u175 u176 u177 u178 u179 u180 u181 u182 u183 u184 u185 u186 wc hcut
  clear HS1 HMO
  obtain ⟨t, rfl, ht, hs⟩ := hcut
  have HS1 := Aside0.mk hs
  clear hs
  cases t with
  | true =>
    have HN : Aside0 (b = false) := ⟨Bool.eq_false_iff.2 fun hbt => by
      have h := HPI.out.1 hbt
      exact absurd (ht.2 ⟨h.2.1, h.2.2.1, h.2.2.2.1, h.2.2.2.2.2.1⟩) (by simp)⟩
    clear ht
    go_wp2_with fail
    go_ret
    rw [HN.out]
    exact ⟨rfl, HS1.out.below⟩
  | false =>
  have H9 := Aside0.mk (ht.1 rfl)
  clear ht
  go_upto_region 11 with (fail)
  refine rs11 y w _ g _ HS1 ?_
  intro v u188 u189 u190 u191 u192 u193 u194 u195 u196 u197 u198 u199 u200 u201 u202 u203 u204 u205 u206 u207 u208 u209 u210 u211 u212 u213 u214 u215 u216 u217 wc hcut
  clear HS1
  obtain ⟨t, rfl, ht, hs⟩ := hcut
  have HS1 := Aside0.mk hs
  clear hs
  cases t with
  | true =>
    have HN : Aside0 (b = false) := ⟨Bool.eq_false_iff.2 fun hbt => by
      have h := HPI.out.1 hbt
      exact absurd (ht.2 ⟨h.2.2.2.2.2.2.1, h.2.2.2.2.2.2.2.1, h.2.2.2.2.2.2.2.2.1⟩) (by simp)⟩
    clear ht
    go_wp2_with fail
    go_ret
    rw [HN.out]
    exact ⟨rfl, HS1.out.below⟩
  | false =>
  have H11 := Aside0.mk (ht.1 rfl)
  clear ht
  go_upto_region 13 with (fail)
  refine rs13 y w _ g _ HS1 ?_
  intro v u219 u220 u221 u222 u223 u224 u225 u226 u227 u228 u229 u230 u231 u232 u233 u234 u235 u236 wc hcut
  clear HS1
  obtain ⟨t, rfl, ht, hs⟩ := hcut
  have HS3 := Aside0.mk hs
  have z := fun i => hs.cell i
  clear hs
  cases t with
  | true =>
    have HN : Aside0 (b = false) := ⟨Bool.eq_false_iff.2 fun hbt => by
      have h := HPI.out.1 hbt
      exact absurd (ht.2 h.2.2.2.2.1) (by simp)⟩
    clear ht
    go_wp2_with fail
    go_ret
    rw [HN.out]
    exact ⟨rfl, HS3.out.below⟩
  | false =>
  have HBF : Aside0 (b = true ↔ ∀ f ∈ y.f13, frameP f y) := ⟨HPI.out.trans ⟨fun h => h.2.2.2.2.2.2.2.2.2, fun h => ⟨HC.out, H9.out.1, H9.out.2.1, H9.out.2.2.1, ht.1 rfl, H9.out.2.2.2, H11.out.1, H11.out.2.1, H11.out.2.2, h⟩⟩⟩
  clear ht HPI H9 H11
  go_wp2_with fail
  have HS4 := HS3
  clear z HS3
  go_loopw [5] (fun i wr => ∃ k : Nat, k ≤ y.f13.length ∧ i = .int .i64 k ∧ (∀ f ∈ y.f13.take k, frameP f y) ∧ ∃ r, St w wr (Asrt.blk g 27 #[.bool false, .int .i64 y.f1, .int .i64 y.f2, .bool y.f3, .bool y.f4, .int .u32 y.f5, .int .i64 y.f6, .slice B1 y.f7.length d1, .slice B2 y.f8.length d2, .slice B3 y.f9.length d3, .bool y.f10, .bool y.f11, .bool y.f12, .slice B4 y.f13.length d4, .slice B5 y.f14.length d5] * r)) (fun i _ => y.f13.length - (intOf i).toNat)
  case atStart => exact ⟨0, Nat.zero_le _, rfl, fun f hf => by simp at hf, _, HS4.out⟩
  case round =>
    obtain ⟨k, hk, rfl, hpre, r, hs⟩ := hrel
    clear HS4
    have z := fun i => hs.cell i
    by_cases hlt : k < y.f13.length
    · have x1 : decide ((k : Int) < y.f13.length) = true := decide_eq_true (by omega)
      have x2 : decide (k < y.f13.length) = true := decide_eq_true hlt
      have x3 : (k < y.f13.length) = True := eq_true hlt
      have x4 : ((k : Int) < y.f13.length) = True := eq_true (by omega)
      have k16 : k ≤ 9223372036854775806 := by have := H4.out.2.1; omega
      have hin := getD_in z44 hlt
      have hcut2 := getD_cut z44 hlt
      obtain ⟨ad1, A8, c8, A9, c9, A10, c10, rfl, e0, e1, e2, e3, e4, e5, e6, e7, e8, e9, e10, n8, g8, n9, g9, n10, g10⟩ := at_T44 H4.out (k : Int) (by omega) (by omega)
      simp only [Int.toNat_natCast] at e0 e1 e2 e3 e4 e5 e6 e7 e8 e9 e10
      replace e0 := (hs.below.cell (World.block_lt_of_cell? _ _ e0)).trans e0
      replace e1 := (hs.below.cell (World.block_lt_of_cell? _ _ e1)).trans e1
      replace e2 := (hs.below.cell (World.block_lt_of_cell? _ _ e2)).trans e2
      replace e3 := (hs.below.cell (World.block_lt_of_cell? _ _ e3)).trans e3
      replace e4 := (hs.below.cell (World.block_lt_of_cell? _ _ e4)).trans e4
      replace e5 := (hs.below.cell (World.block_lt_of_cell? _ _ e5)).trans e5
      replace e6 := (hs.below.cell (World.block_lt_of_cell? _ _ e6)).trans e6
      replace e7 := (hs.below.cell (World.block_lt_of_cell? _ _ e7)).trans e7
      replace e8 := (hs.below.cell (World.block_lt_of_cell? _ _ e8)).trans e8
      replace e9 := (hs.below.cell (World.block_lt_of_cell? _ _ e9)).trans e9
      replace e10 := (hs.below.cell (World.block_lt_of_cell? _ _ e10)).trans e10
      rw [show y.f13.getD k z44 = rd_T44 y.f13 k from rfl] at hin hcut2
      generalize rd_T44 y.f13 k = x at *
      have hx := HO.out.fr.2 x hin
      have hx2 := hx.i2
      have hx3 := hx.i3
      have HKD := Aside0.mk fun (W : World) (hb : Below w.heap.size w W) => rkind_calls x _ W (k44.K_below hb (k44_mk w x n8 g8 n9 g9 n10 g10))
      have HMX := Aside0.mk fun (W : World) (hb : Below w.heap.size w W) => rmore_calls A10 c10 x.f10 W hx.mo (Kd.C_below g10 hb) n10
      have HPRE := Aside0.mk hpre
      have HIN := Aside0.mk hin
      have HC2 := Aside0.mk hcut2
      have HLT := Aside0.mk hlt
      have HAL := Aside0.mk (hs.alloc #[.int .i64 x.f0, .int .i64 x.f1, .int .i64 x.f2, .int .i64 x.f3, .int .i64 x.f4, .bool x.f5, .bool x.f6, .int .i64 x.f7, .slice A8 x.f8.length c8, .slice A9 x.f9.length c9, .slice A10 x.f10.length c10] 44)
      have HX2 := Aside0.mk hx2
      have HX3 := Aside0.mk hx3
      clear hs hin hcut2 hpre g8 g9 g10 n8 n9 n10 hx hk hlt hx2 hx3
      go_upto_region 19 with (fail)
      clear z e0 e1 e2 e3 e4 e5 e6 e7 e8 e9 e10
      generalize wr.alloc (.cells _ 44) = W2 at HAL ⊢
      generalize wr.heap.size = gf at HAL ⊢
      refine rs19 y x w _ g gf _ HAL HC HX2.out HX3.out HKD HMX ?_
      intro v u250 u251 u252 u253 u254 u255 u256 u257 u258 u259 u260 u261 u262 u263 u264 u265 u266 u267 u268 u269 u270 u271 u272 u273 u274 u275 u276 u277 u278 u279 u280 u281 u282 u283 u284 u285 u286 u287 u288 u289 u290 u291 u292 u293 u294 u295 u296 u297 u298 u299 u300 u301 u302 u303 u304 u305 u306 u307 u308 u309 u310 u311 u312 u313 u314 u315 u316 u317 u318 u319 u320 u321 u322 u323 u324 u325 u326 u327 u328 u329 u330 u331 u332 u333 wc hcut
      clear HAL HKD HMX
      obtain ⟨t, rfl, ht, hs⟩ := hcut
      have HS3 := Aside0.mk hs
      clear hs
      cases t with
      | true =>
        have HN : Aside0 (b = false) := ⟨Bool.eq_false_iff.2 fun hbt => absurd (ht.2 (frameP_iff.1 (HBF.out.1 hbt x HIN.out)).1) (by simp)⟩
        clear ht
        go_wp2_with fail
        go_ret
        rw [HN.out]
        exact ⟨rfl, HS3.out.below⟩
      | false =>
      have H19 := Aside0.mk (ht.1 rfl)
      clear ht
      go_upto_region 21 with (fail)
      refine rs21 y x w _ g gf _ HS3 ?_
      intro v u335 u336 u337 u338 u339 u340 u341 u342 u343 u344 u345 u346 u347 u348 u349 u350 u351 u352 u353 u354 u355 u356 u357 u358 u359 u360 u361 u362 u363 u364 u365 u366 u367 u368 u369 wc hcut
      clear HS3
      obtain ⟨t, rfl, ht, hs⟩ := hcut
      have HS3 := Aside0.mk hs
      clear hs
      cases t with
      | true =>
        have HN : Aside0 (b = false) := ⟨Bool.eq_false_iff.2 fun hbt => absurd (ht.2 (frameP_iff.1 (HBF.out.1 hbt x HIN.out)).2) (by simp)⟩
        clear ht
        go_wp2_with fail
        go_ret
        rw [HN.out]
        exact ⟨rfl, HS3.out.below⟩
      | false =>
      have HFX := Aside0.mk (frameP_iff.2 ⟨H19.out, ht.1 rfl⟩)
      clear ht
      go_wp2_with fail
      go_roundw
      case rel => exact ⟨k + 1, HLT.out, by go_num, fun f hf => by rw [HC2.out] at hf; rcases List.mem_append.1 hf with h | h; exact HPRE.out f h; rw [List.mem_singleton.1 h]; exact HFX.out, _, HS3.out.swap⟩
      case measure => have := HLT.out; simp [intOf]; omega
    · have x1 : decide ((k : Int) < y.f13.length) = false := decide_eq_false (by omega)
      have x2 : decide (k < y.f13.length) = false := decide_eq_false hlt
      have HN : Aside0 (b = true) := ⟨HBF.out.2 (by rw [show k = y.f13.length by omega, List.take_length] at hpre; exact hpre)⟩
      have HB := Aside0.mk hs.below
      clear hs hpre hk hlt
      go_wp2_with fail
      go_ret
      rw [HN.out]
      exact ⟨rfl, HB.out⟩
theorem refSound_calls (y : Dc) (ds : List Value) (w : World) (hy : k27.K w y ds) (ho : okDc y) (hn : smallN y < 20000) (b : Bool) (hb : b = true ↔ soundP y) :
    Calls Try.prog 13 #[.agg ds.toArray] w fun e w' => e = .returned (.bool b) ∧ Below w.heap.size w w' := by
  cases h0 : y.f0 with
  | true => exact refSoundP_calls y ds w hy ho hn h0 b hb
  | false => exact refSoundW_calls y ds w hy ho hn h0 b hb
end Go.Proofs.Ythkocpcjcpohcaa.P
end
section
namespace Go.Proofs.Ythkocpcjcpohcaa.Pure
open Go Go.RowKit Go.Proofs.Ythkocpcjcpohcaa.P Go.Proofs.YthkocpcjcpohcaaW.PrintWords Go.Proofs.YthkocpcjcpohcaaW.PrintLast Go.Proofs.YthkocpcjcpohcaaW.PrintMore Go.Proofs.Ythkocpcjcpohcaa.U
set_option linter.unusedVariables false
set_option linter.unusedSimpArgs false
attribute [local go_sem] max2_int min2_int max_two min_two max_three min_three max_four min_four
noncomputable def bsr1_code : Code := ((Try.f4.body).bind (regionIn 1)).getD .skip
set_option maxHeartbeats 16000000 in
set_option maxRecDepth 1000000 in
theorem bsr1 {c0 c1 c4 c5 c6 c7 c8 c9 c10 c11 c12 c13 c14 c15 c16 c17 c18 c19 c20 c21 c22 c23 c24 c25 c26 c27 c28 c29 c30 c31 c32 c33 c34 c35 c36 c37 c38 c39 c40 c41 c42 c43 c44 c45 c46 c47 c48 c49 c50 c51 c52 c53 c54 c55 c56 c57 c58 c59 : Value} {Q : Exit → Act → World → Prop} (x y : Dc) (w w2 : World) (g : Nat) (R : Asrt) {A1 A2 A3 A4 A5 : Option Addr} {k1 k2 k3 k4 k5 : Nat} {B1 B2 B3 B4 B5 : Option Addr} {d1 d2 d3 d4 d5 : Nat} (HS : Aside0 (St w w2 (Asrt.blk (g + 1) 27 #[.bool y.f0, .int .i64 y.f1, .int .i64 y.f2, .bool y.f3, .bool y.f4, .int .u32 y.f5, .int .i64 y.f6, .slice B1 y.f7.length d1, .slice B2 y.f8.length d2, .slice B3 y.f9.length d3, .bool y.f10, .bool y.f11, .bool y.f12, .slice B4 y.f13.length d4, .slice B5 y.f14.length d5] * (Asrt.blk g 27 #[.bool x.f0, .int .i64 x.f1, .int .i64 x.f2, .bool x.f3, .bool x.f4, .int .u32 x.f5, .int .i64 x.f6, .slice A1 x.f7.length k1, .slice A2 x.f8.length k2, .slice A3 x.f9.length k3, .bool x.f10, .bool x.f11, .bool x.f12, .slice A4 x.f13.length k4, .slice A5 x.f14.length k5] * R)))) (HMX : Aside0 (∀ W : World, Below w.heap.size w W → Calls Try.prog 9 #[.agg #[.bool x.f0, .int .i64 x.f1, .int .i64 x.f2, .bool x.f3, .bool x.f4, .int .u32 x.f5, .int .i64 x.f6, .slice A1 x.f7.length k1, .slice A2 x.f8.length k2, .slice A3 x.f9.length k3, .bool x.f10, .bool x.f11, .bool x.f12, .slice A4 x.f13.length k4, .slice A5 x.f14.length k5]] W fun e w' => e = .returned (.bool true) ∧ Below W.heap.size W w')) (HMY : Aside0 (∀ W : World, Below w.heap.size w W → Calls Try.prog 9 #[.agg #[.bool y.f0, .int .i64 y.f1, .int .i64 y.f2, .bool y.f3, .bool y.f4, .int .u32 y.f5, .int .i64 y.f6, .slice B1 y.f7.length d1, .slice B2 y.f8.length d2, .slice B3 y.f9.length d3, .bool y.f10, .bool y.f11, .bool y.f12, .slice B4 y.f13.length d4, .slice B5 y.f14.length d5]] W fun e w' => e = .returned (.bool true) ∧ Below W.heap.size W w'))
    (hK : ∀ (v u10 u11 u12 u13 u14 u15 u16 : Value) (wc : World), (v = .bool false ∧ St w wc (Asrt.blk (g + 1) 27 #[.bool y.f0, .int .i64 y.f1, .int .i64 y.f2, .bool y.f3, .bool y.f4, .int .u32 y.f5, .int .i64 y.f6, .slice B1 y.f7.length d1, .slice B2 y.f8.length d2, .slice B3 y.f9.length d3, .bool y.f10, .bool y.f11, .bool y.f12, .slice B4 y.f13.length d4, .slice B5 y.f14.length d5] * (Asrt.blk g 27 #[.bool x.f0, .int .i64 x.f1, .int .i64 x.f2, .bool x.f3, .bool x.f4, .int .u32 x.f5, .int .i64 x.f6, .slice A1 x.f7.length k1, .slice A2 x.f8.length k2, .slice A3 x.f9.length k3, .bool x.f10, .bool x.f11, .bool x.f12, .slice A4 x.f13.length k4, .slice A5 x.f14.length k5] * R))) → Q .normal ⟨#[c0, c1, Value.pointer (some ⟨g, 0, none⟩), Value.pointer (some ⟨g + 1, 0, none⟩), c4, c5, c6, c7, c8, c9, u10, u11, u12, u13, u14, u15, u16, v, c18, c19, c20, c21, c22, c23, c24, c25, c26, c27, c28, c29, c30, c31, c32, c33, c34, c35, c36, c37, c38, c39, c40, c41, c42, c43, c44, c45, c46, c47, c48, c49, c50, c51, c52, c53, c54, c55, c56, c57, c58, c59], []⟩ wc) :
    Code.wp Try.prog bsr1_code Q ⟨#[c0, c1, Value.pointer (some ⟨g, 0, none⟩), Value.pointer (some ⟨g + 1, 0, none⟩), c4, c5, c6, c7, c8, c9, c10, c11, c12, c13, c14, c15, c16, c17, c18, c19, c20, c21, c22, c23, c24, c25, c26, c27, c28, c29, c30, c31, c32, c33, c34, c35, c36, c37, c38, c39, c40, c41, c42, c43, c44, c45, c46, c47, c48, c49, c50, c51, c52, c53, c54, c55, c56, c57, c58, c59], []⟩ w2 := by
  have HK := Aside0.mk hK
  clear hK
  conv => arg 2; whnf
  have z := fun i => HS.out.cell i
  have zz := fun i => HS.out.swap.cell i
  go_wp2_with (first
    | (go_at_call 9; with_reducible refine (HMX.out _ HS.out.below).mono ?_; clear HMX; rintro e w9 ⟨rfl, hb⟩; have hs := HS.out.belowR hb; clear HS z zz hb; have HS := Aside0.mk hs; have z := fun i => HS.out.cell i; have zz := fun i => HS.out.swap.cell i; clear hs)
    | (go_at_call 9; with_reducible refine (HMY.out _ HS.out.below).mono ?_; clear HMY; rintro e w9 ⟨rfl, hb⟩; have hs := HS.out.belowR hb; clear HS z zz hb; have HS := Aside0.mk hs; have z := fun i => HS.out.cell i; have zz := fun i => HS.out.swap.cell i; clear hs))
  apply HK.out
  exact ⟨rfl, HS.out⟩
noncomputable def bsr3_code : Code := ((Try.f4.body).bind (regionIn 3)).getD .skip
set_option maxHeartbeats 16000000 in
set_option maxRecDepth 1000000 in
theorem bsr3 {c0 c1 c4 c5 c6 c7 c8 c9 c10 c11 c12 c13 c14 c15 c16 c17 c18 c19 c20 c21 c22 c23 c24 c25 c26 c27 c28 c29 c30 c31 c32 c33 c34 c35 c36 c37 c38 c39 c40 c41 c42 c43 c44 c45 c46 c47 c48 c49 c50 c51 c52 c53 c54 c55 c56 c57 c58 c59 : Value} {Q : Exit → Act → World → Prop} (x y : Dc) (w w2 : World) (g : Nat) (R : Asrt) {A1 A2 A3 A4 A5 : Option Addr} {k1 k2 k3 k4 k5 : Nat} {B1 B2 B3 B4 B5 : Option Addr} {d1 d2 d3 d4 d5 : Nat} (q : Bool) (HS : Aside0 (St w w2 (Asrt.blk (g + 1) 27 #[.bool y.f0, .int .i64 y.f1, .int .i64 y.f2, .bool y.f3, .bool y.f4, .int .u32 y.f5, .int .i64 y.f6, .slice B1 y.f7.length d1, .slice B2 y.f8.length d2, .slice B3 y.f9.length d3, .bool y.f10, .bool y.f11, .bool y.f12, .slice B4 y.f13.length d4, .slice B5 y.f14.length d5] * (Asrt.blk g 27 #[.bool x.f0, .int .i64 x.f1, .int .i64 x.f2, .bool x.f3, .bool x.f4, .int .u32 x.f5, .int .i64 x.f6, .slice A1 x.f7.length k1, .slice A2 x.f8.length k2, .slice A3 x.f9.length k3, .bool x.f10, .bool x.f11, .bool x.f12, .slice A4 x.f13.length k4, .slice A5 x.f14.length k5] * R)))) (HRS : Aside0 (∀ W : World, Below w.heap.size w W → Calls Try.prog 18 #[.agg #[.bool x.f0, .int .i64 x.f1, .int .i64 x.f2, .bool x.f3, .bool x.f4, .int .u32 x.f5, .int .i64 x.f6, .slice A1 x.f7.length k1, .slice A2 x.f8.length k2, .slice A3 x.f9.length k3, .bool x.f10, .bool x.f11, .bool x.f12, .slice A4 x.f13.length k4, .slice A5 x.f14.length k5], .agg #[.bool y.f0, .int .i64 y.f1, .int .i64 y.f2, .bool y.f3, .bool y.f4, .int .u32 y.f5, .int .i64 y.f6, .slice B1 y.f7.length d1, .slice B2 y.f8.length d2, .slice B3 y.f9.length d3, .bool y.f10, .bool y.f11, .bool y.f12, .slice B4 y.f13.length d4, .slice B5 y.f14.length d5]] W fun e w' => e = .returned (.bool q) ∧ Below W.heap.size W w'))
    (hK : ∀ (v u19 u20 u21 : Value) (wc : World), (v = .bool q ∧ St w wc (Asrt.blk (g + 1) 27 #[.bool y.f0, .int .i64 y.f1, .int .i64 y.f2, .bool y.f3, .bool y.f4, .int .u32 y.f5, .int .i64 y.f6, .slice B1 y.f7.length d1, .slice B2 y.f8.length d2, .slice B3 y.f9.length d3, .bool y.f10, .bool y.f11, .bool y.f12, .slice B4 y.f13.length d4, .slice B5 y.f14.length d5] * (Asrt.blk g 27 #[.bool x.f0, .int .i64 x.f1, .int .i64 x.f2, .bool x.f3, .bool x.f4, .int .u32 x.f5, .int .i64 x.f6, .slice A1 x.f7.length k1, .slice A2 x.f8.length k2, .slice A3 x.f9.length k3, .bool x.f10, .bool x.f11, .bool x.f12, .slice A4 x.f13.length k4, .slice A5 x.f14.length k5] * R))) → Q .normal ⟨#[c0, c1, Value.pointer (some ⟨g, 0, none⟩), Value.pointer (some ⟨g + 1, 0, none⟩), c4, v, c6, c7, c8, c9, c10, c11, c12, c13, c14, c15, c16, c17, c18, u19, u20, u21, c22, c23, c24, c25, c26, c27, c28, c29, c30, c31, c32, c33, c34, c35, c36, c37, c38, c39, c40, c41, c42, c43, c44, c45, c46, c47, c48, c49, c50, c51, c52, c53, c54, c55, c56, c57, c58, c59], []⟩ wc) :
    Code.wp Try.prog bsr3_code Q ⟨#[c0, c1, Value.pointer (some ⟨g, 0, none⟩), Value.pointer (some ⟨g + 1, 0, none⟩), c4, c5, c6, c7, c8, c9, c10, c11, c12, c13, c14, c15, c16, c17, c18, c19, c20, c21, c22, c23, c24, c25, c26, c27, c28, c29, c30, c31, c32, c33, c34, c35, c36, c37, c38, c39, c40, c41, c42, c43, c44, c45, c46, c47, c48, c49, c50, c51, c52, c53, c54, c55, c56, c57, c58, c59], []⟩ w2 := by
  have HK := Aside0.mk hK
  clear hK
  conv => arg 2; whnf
  have z := fun i => HS.out.cell i
  have zz := fun i => HS.out.swap.cell i
  go_wp2_with (go_at_call 18; with_reducible refine (HRS.out _ HS.out.below).mono ?_; clear HRS; rintro e w9 ⟨rfl, hb⟩; have hs := HS.out.belowR hb; clear HS z zz hb; have HS := Aside0.mk hs; have z := fun i => HS.out.cell i; have zz := fun i => HS.out.swap.cell i; clear hs)
  apply HK.out
  exact ⟨rfl, HS.out⟩
noncomputable def bsr4_code : Code := ((Try.f4.body).bind (regionIn 4)).getD .skip
set_option maxHeartbeats 16000000 in
set_option maxRecDepth 1000000 in
theorem bsr4 {c0 c1 c4 c6 c7 c8 c9 c10 c11 c12 c13 c14 c15 c16 c17 c18 c19 c20 c21 c22 c23 c24 c25 c26 c27 c28 c29 c30 c31 c32 c33 c34 c35 c36 c37 c38 c39 c40 c41 c42 c43 c44 c45 c46 c47 c48 c49 c50 c51 c52 c53 c54 c55 c56 c57 c58 c59 : Value} {Q : Exit → Act → World → Prop} (x y : Dc) (w w2 : World) (g : Nat) (R : Asrt) {A1 A2 A3 A4 A5 : Option Addr} {k1 k2 k3 k4 k5 : Nat} {B1 B2 B3 B4 B5 : Option Addr} {d1 d2 d3 d4 d5 : Nat} (q : Bool) (HS : Aside0 (St w w2 (Asrt.blk (g + 1) 27 #[.bool y.f0, .int .i64 y.f1, .int .i64 y.f2, .bool y.f3, .bool y.f4, .int .u32 y.f5, .int .i64 y.f6, .slice B1 y.f7.length d1, .slice B2 y.f8.length d2, .slice B3 y.f9.length d3, .bool y.f10, .bool y.f11, .bool y.f12, .slice B4 y.f13.length d4, .slice B5 y.f14.length d5] * (Asrt.blk g 27 #[.bool x.f0, .int .i64 x.f1, .int .i64 x.f2, .bool x.f3, .bool x.f4, .int .u32 x.f5, .int .i64 x.f6, .slice A1 x.f7.length k1, .slice A2 x.f8.length k2, .slice A3 x.f9.length k3, .bool x.f10, .bool x.f11, .bool x.f12, .slice A4 x.f13.length k4, .slice A5 x.f14.length k5] * R)))) (HA : Aside0 (∀ W : World, Calls Try.prog 10 #[] W fun e w' => e = .returned (.bool true) ∧ Below W.heap.size W w')) (HBS : Aside0 (∀ W : World, Below w.heap.size w W → Calls Try.prog 19 #[.agg #[.bool x.f0, .int .i64 x.f1, .int .i64 x.f2, .bool x.f3, .bool x.f4, .int .u32 x.f5, .int .i64 x.f6, .slice A1 x.f7.length k1, .slice A2 x.f8.length k2, .slice A3 x.f9.length k3, .bool x.f10, .bool x.f11, .bool x.f12, .slice A4 x.f13.length k4, .slice A5 x.f14.length k5], .agg #[.bool y.f0, .int .i64 y.f1, .int .i64 y.f2, .bool y.f3, .bool y.f4, .int .u32 y.f5, .int .i64 y.f6, .slice B1 y.f7.length d1, .slice B2 y.f8.length d2, .slice B3 y.f9.length d3, .bool y.f10, .bool y.f11, .bool y.f12, .slice B4 y.f13.length d4, .slice B5 y.f14.length d5]] W fun e w' => e = .returned (.bool q) ∧ Below W.heap.size W w')) (HBX : Aside0 (∀ W : World, Below w.heap.size w W → Calls Try.prog 19 #[.agg #[.bool x.f0, .int .i64 x.f1, .int .i64 x.f2, .bool x.f3, .bool x.f4, .int .u32 x.f5, .int .i64 x.f6, .slice A1 x.f7.length k1, .slice A2 x.f8.length k2, .slice A3 x.f9.length k3, .bool x.f10, .bool x.f11, .bool x.f12, .slice A4 x.f13.length k4, .slice A5 x.f14.length k5], .agg #[.bool x.f0, .int .i64 x.f1, .int .i64 x.f2, .bool x.f3, .bool x.f4, .int .u32 x.f5, .int .i64 x.f6, .slice A1 x.f7.length k1, .slice A2 x.f8.length k2, .slice A3 x.f9.length k3, .bool x.f10, .bool x.f11, .bool x.f12, .slice A4 x.f13.length k4, .slice A5 x.f14.length k5]] W fun e w' => e = .returned (.bool true) ∧ Below W.heap.size W w'))
    (hK : ∀ (v u22 u23 u24 u25 u26 u27 u28 u29 u30 u31 u32 u33 u34 u35 : Value) (wc : World), (v = .bool false ∧ St w wc (Asrt.blk (g + 1) 27 #[.bool y.f0, .int .i64 y.f1, .int .i64 y.f2, .bool y.f3, .bool y.f4, .int .u32 y.f5, .int .i64 y.f6, .slice B1 y.f7.length d1, .slice B2 y.f8.length d2, .slice B3 y.f9.length d3, .bool y.f10, .bool y.f11, .bool y.f12, .slice B4 y.f13.length d4, .slice B5 y.f14.length d5] * (Asrt.blk g 27 #[.bool x.f0, .int .i64 x.f1, .int .i64 x.f2, .bool x.f3, .bool x.f4, .int .u32 x.f5, .int .i64 x.f6, .slice A1 x.f7.length k1, .slice A2 x.f8.length k2, .slice A3 x.f9.length k3, .bool x.f10, .bool x.f11, .bool x.f12, .slice A4 x.f13.length k4, .slice A5 x.f14.length k5] * R))) → Q .normal ⟨#[c0, c1, Value.pointer (some ⟨g, 0, none⟩), Value.pointer (some ⟨g + 1, 0, none⟩), c4, Value.bool q, c6, c7, c8, c9, c10, c11, c12, c13, c14, c15, c16, c17, c18, c19, c20, c21, u22, u23, u24, u25, u26, u27, u28, u29, u30, u31, u32, u33, u34, u35, v, c37, c38, c39, c40, c41, c42, c43, c44, c45, c46, c47, c48, c49, c50, c51, c52, c53, c54, c55, c56, c57, c58, c59], []⟩ wc) :
    Code.wp Try.prog bsr4_code Q ⟨#[c0, c1, Value.pointer (some ⟨g, 0, none⟩), Value.pointer (some ⟨g + 1, 0, none⟩), c4, Value.bool q, c6, c7, c8, c9, c10, c11, c12, c13, c14, c15, c16, c17, c18, c19, c20, c21, c22, c23, c24, c25, c26, c27, c28, c29, c30, c31, c32, c33, c34, c35, c36, c37, c38, c39, c40, c41, c42, c43, c44, c45, c46, c47, c48, c49, c50, c51, c52, c53, c54, c55, c56, c57, c58, c59], []⟩ w2 := by
  have HK := Aside0.mk hK
  clear hK
  conv => arg 2; whnf
  have z := fun i => HS.out.cell i
  have zz := fun i => HS.out.swap.cell i
  have qq : (q != q) = false := by simp
  go_wp2_with (first
    | (go_at_call 10; with_reducible refine (HA.out _).mono ?_; rintro e w9 ⟨rfl, hb⟩; have hs := HS.out.belowR hb; clear HS z zz hb; have HS := Aside0.mk hs; have z := fun i => HS.out.cell i; have zz := fun i => HS.out.swap.cell i; clear hs)
    | (go_at_call 19; with_reducible refine (HBS.out _ HS.out.below).mono ?_; clear HBS; rintro e w9 ⟨rfl, hb⟩; have hs := HS.out.belowR hb; clear HS z zz hb; have HS := Aside0.mk hs; have z := fun i => HS.out.cell i; have zz := fun i => HS.out.swap.cell i; clear hs)
    | (go_at_call 19; with_reducible refine (HBX.out _ HS.out.below).mono ?_; clear HBX; rintro e w9 ⟨rfl, hb⟩; have hs := HS.out.belowR hb; clear HS z zz hb; have HS := Aside0.mk hs; have z := fun i => HS.out.cell i; have zz := fun i => HS.out.swap.cell i; clear hs))
  apply HK.out
  exact ⟨rfl, HS.out⟩
end Go.Proofs.Ythkocpcjcpohcaa.Pure
end
section
namespace Go.Proofs.Ythkocpcjcpohcaa.Pure
open Go Go.RowKit Go.Proofs.Ythkocpcjcpohcaa.P Go.Proofs.YthkocpcjcpohcaaW.PrintWords Go.Proofs.YthkocpcjcpohcaaW.PrintLast Go.Proofs.YthkocpcjcpohcaaW.PrintMore Go.Proofs.Ythkocpcjcpohcaa.U
set_option linter.unusedVariables false
set_option linter.unusedSimpArgs false
attribute [local go_sem] max2_int min2_int max_two min_two max_three min_three max_four min_four
noncomputable def bsr6_code : Code := ((Try.f4.body).bind (regionIn 6)).getD .skip
set_option maxHeartbeats 16000000 in
set_option maxRecDepth 1000000 in
theorem bsr6 {c0 c1 c4 c5 c6 c7 c8 c9 c10 c11 c12 c13 c14 c15 c16 c17 c18 c19 c20 c21 c22 c23 c24 c25 c26 c27 c28 c29 c30 c31 c32 c33 c34 c35 c36 c37 c38 c39 c40 c41 c42 c43 c44 c45 c46 c47 c48 c49 c50 c51 c52 c53 c54 c55 c56 c57 c58 c59 : Value} {Q : Exit → Act → World → Prop} (x y : Dc) (w w2 : World) (g : Nat) (R : Asrt) {A1 A2 A3 A4 A5 : Option Addr} {k1 k2 k3 k4 k5 : Nat} {B1 B2 B3 B4 B5 : Option Addr} {d1 d2 d3 d4 d5 : Nat} (p q : Bool) (HS : Aside0 (St w w2 (Asrt.blk (g + 1) 27 #[.bool y.f0, .int .i64 y.f1, .int .i64 y.f2, .bool y.f3, .bool y.f4, .int .u32 y.f5, .int .i64 y.f6, .slice B1 y.f7.length d1, .slice B2 y.f8.length d2, .slice B3 y.f9.length d3, .bool y.f10, .bool y.f11, .bool y.f12, .slice B4 y.f13.length d4, .slice B5 y.f14.length d5] * (Asrt.blk g 27 #[.bool x.f0, .int .i64 x.f1, .int .i64 x.f2, .bool x.f3, .bool x.f4, .int .u32 x.f5, .int .i64 x.f6, .slice A1 x.f7.length k1, .slice A2 x.f8.length k2, .slice A3 x.f9.length k3, .bool x.f10, .bool x.f11, .bool x.f12, .slice A4 x.f13.length k4, .slice A5 x.f14.length k5] * R)))) (HSX : Aside0 (∀ W : World, Below w.heap.size w W → Calls Try.prog 13 #[.agg #[.bool x.f0, .int .i64 x.f1, .int .i64 x.f2, .bool x.f3, .bool x.f4, .int .u32 x.f5, .int .i64 x.f6, .slice A1 x.f7.length k1, .slice A2 x.f8.length k2, .slice A3 x.f9.length k3, .bool x.f10, .bool x.f11, .bool x.f12, .slice A4 x.f13.length k4, .slice A5 x.f14.length k5]] W fun e w' => e = .returned (.bool p) ∧ Below W.heap.size W w')) (HSY : Aside0 (∀ W : World, Below w.heap.size w W → Calls Try.prog 13 #[.agg #[.bool y.f0, .int .i64 y.f1, .int .i64 y.f2, .bool y.f3, .bool y.f4, .int .u32 y.f5, .int .i64 y.f6, .slice B1 y.f7.length d1, .slice B2 y.f8.length d2, .slice B3 y.f9.length d3, .bool y.f10, .bool y.f11, .bool y.f12, .slice B4 y.f13.length d4, .slice B5 y.f14.length d5]] W fun e w' => e = .returned (.bool q) ∧ Below W.heap.size W w'))
    (hK : ∀ (v u37 u38 u39 u40 u41 u42 u43 : Value) (wc : World), (v = .bool (!(p && q)) ∧ St w wc (Asrt.blk (g + 1) 27 #[.bool y.f0, .int .i64 y.f1, .int .i64 y.f2, .bool y.f3, .bool y.f4, .int .u32 y.f5, .int .i64 y.f6, .slice B1 y.f7.length d1, .slice B2 y.f8.length d2, .slice B3 y.f9.length d3, .bool y.f10, .bool y.f11, .bool y.f12, .slice B4 y.f13.length d4, .slice B5 y.f14.length d5] * (Asrt.blk g 27 #[.bool x.f0, .int .i64 x.f1, .int .i64 x.f2, .bool x.f3, .bool x.f4, .int .u32 x.f5, .int .i64 x.f6, .slice A1 x.f7.length k1, .slice A2 x.f8.length k2, .slice A3 x.f9.length k3, .bool x.f10, .bool x.f11, .bool x.f12, .slice A4 x.f13.length k4, .slice A5 x.f14.length k5] * R))) → Q .normal ⟨#[c0, c1, Value.pointer (some ⟨g, 0, none⟩), Value.pointer (some ⟨g + 1, 0, none⟩), c4, c5, c6, c7, c8, c9, c10, c11, c12, c13, c14, c15, c16, c17, c18, c19, c20, c21, c22, c23, c24, c25, c26, c27, c28, c29, c30, c31, c32, c33, c34, c35, c36, u37, u38, u39, u40, u41, u42, u43, v, c45, c46, c47, c48, c49, c50, c51, c52, c53, c54, c55, c56, c57, c58, c59], []⟩ wc) :
    Code.wp Try.prog bsr6_code Q ⟨#[c0, c1, Value.pointer (some ⟨g, 0, none⟩), Value.pointer (some ⟨g + 1, 0, none⟩), c4, c5, c6, c7, c8, c9, c10, c11, c12, c13, c14, c15, c16, c17, c18, c19, c20, c21, c22, c23, c24, c25, c26, c27, c28, c29, c30, c31, c32, c33, c34, c35, c36, c37, c38, c39, c40, c41, c42, c43, c44, c45, c46, c47, c48, c49, c50, c51, c52, c53, c54, c55, c56, c57, c58, c59], []⟩ w2 := by
  have HK := Aside0.mk hK
  clear hK
  conv => arg 2; whnf
  have z := fun i => HS.out.cell i
  have zz := fun i => HS.out.swap.cell i
  cases p with
  | false =>
    go_wp2_with (go_at_call 13; with_reducible refine (HSX.out _ HS.out.below).mono ?_; clear HSX; rintro e w9 ⟨rfl, hb⟩; have hs := HS.out.belowR hb; clear HS z zz hb; have HS := Aside0.mk hs; have z := fun i => HS.out.cell i; have zz := fun i => HS.out.swap.cell i; clear hs)
    apply HK.out
    exact ⟨rfl, HS.out⟩
  | true =>
    cases q with
    | false =>
      go_wp2_with (first
        | (go_at_call 13; with_reducible refine (HSX.out _ HS.out.below).mono ?_; clear HSX; rintro e w9 ⟨rfl, hb⟩; have hs := HS.out.belowR hb; clear HS z zz hb; have HS := Aside0.mk hs; have z := fun i => HS.out.cell i; have zz := fun i => HS.out.swap.cell i; clear hs)
        | (go_at_call 13; with_reducible refine (HSY.out _ HS.out.below).mono ?_; clear HSY; rintro e w9 ⟨rfl, hb⟩; have hs := HS.out.belowR hb; clear HS z zz hb; have HS := Aside0.mk hs; have z := fun i => HS.out.cell i; have zz := fun i => HS.out.swap.cell i; clear hs))
      apply HK.out
      exact ⟨rfl, HS.out⟩
    | true =>
      go_wp2_with (first
        | (go_at_call 13; with_reducible refine (HSX.out _ HS.out.below).mono ?_; clear HSX; rintro e w9 ⟨rfl, hb⟩; have hs := HS.out.belowR hb; clear HS z zz hb; have HS := Aside0.mk hs; have z := fun i => HS.out.cell i; have zz := fun i => HS.out.swap.cell i; clear hs)
        | (go_at_call 13; with_reducible refine (HSY.out _ HS.out.below).mono ?_; clear HSY; rintro e w9 ⟨rfl, hb⟩; have hs := HS.out.belowR hb; clear HS z zz hb; have HS := Aside0.mk hs; have z := fun i => HS.out.cell i; have zz := fun i => HS.out.swap.cell i; clear hs))
      apply HK.out
      exact ⟨rfl, HS.out⟩
noncomputable def bsr8_code : Code := ((Try.f4.body).bind (regionIn 8)).getD .skip
set_option maxHeartbeats 16000000 in
set_option maxRecDepth 1000000 in
theorem bsr8 {c0 c1 c4 c5 c6 c7 c8 c9 c10 c11 c12 c13 c14 c15 c16 c17 c18 c19 c20 c21 c22 c23 c24 c25 c26 c27 c28 c29 c30 c31 c32 c33 c34 c35 c36 c37 c38 c39 c40 c41 c42 c43 c44 c45 c46 c47 c48 c49 c50 c51 c52 c53 c54 c55 c56 c57 c58 c59 : Value} {Q : Exit → Act → World → Prop} (x y : Dc) (w w2 : World) (g : Nat) (R : Asrt) {A1 A2 A3 A4 A5 : Option Addr} {k1 k2 k3 k4 k5 : Nat} {B1 B2 B3 B4 B5 : Option Addr} {d1 d2 d3 d4 d5 : Nat} (fx : List Int) (HS : Aside0 (St w w2 (Asrt.blk (g + 1) 27 #[.bool y.f0, .int .i64 y.f1, .int .i64 y.f2, .bool y.f3, .bool y.f4, .int .u32 y.f5, .int .i64 y.f6, .slice B1 y.f7.length d1, .slice B2 y.f8.length d2, .slice B3 y.f9.length d3, .bool y.f10, .bool y.f11, .bool y.f12, .slice B4 y.f13.length d4, .slice B5 y.f14.length d5] * (Asrt.blk g 27 #[.bool x.f0, .int .i64 x.f1, .int .i64 x.f2, .bool x.f3, .bool x.f4, .int .u32 x.f5, .int .i64 x.f6, .slice A1 x.f7.length k1, .slice A2 x.f8.length k2, .slice A3 x.f9.length k3, .bool x.f10, .bool x.f11, .bool x.f12, .slice A4 x.f13.length k4, .slice A5 x.f14.length k5] * R)))) (HPX : Aside0 (∀ W : World, Below w.heap.size w W → Calls Try.prog 11 #[.agg #[.bool x.f0, .int .i64 x.f1, .int .i64 x.f2, .bool x.f3, .bool x.f4, .int .u32 x.f5, .int .i64 x.f6, .slice A1 x.f7.length k1, .slice A2 x.f8.length k2, .slice A3 x.f9.length k3, .bool x.f10, .bool x.f11, .bool x.f12, .slice A4 x.f13.length k4, .slice A5 x.f14.length k5]] W fun e w' => ∃ v : Value, e = .returned (.tuple #[v, .int .i64 0]) ∧ Kd.R (Kd.int .u8) 5 w' W.heap.size (fun _ => True) v fx ∧ Below W.heap.size W w'))
    (hK : ∀ (v u46 u47 u45 u48 u49 u7 : Value) (wc : World), (∃ (E : Option Addr) (n c : Nat), v = .slice E n c ∧ n = fx.length ∧ n ≤ c ∧ St w wc (pin w (fun W => (Kd.int .u8).C W E n fx) * (Asrt.blk (g + 1) 27 #[.bool y.f0, .int .i64 y.f1, .int .i64 y.f2, .bool y.f3, .bool y.f4, .int .u32 y.f5, .int .i64 y.f6, .slice B1 y.f7.length d1, .slice B2 y.f8.length d2, .slice B3 y.f9.length d3, .bool y.f10, .bool y.f11, .bool y.f12, .slice B4 y.f13.length d4, .slice B5 y.f14.length d5] * (Asrt.blk g 27 #[.bool x.f0, .int .i64 x.f1, .int .i64 x.f2, .bool x.f3, .bool x.f4, .int .u32 x.f5, .int .i64 x.f6, .slice A1 x.f7.length k1, .slice A2 x.f8.length k2, .slice A3 x.f9.length k3, .bool x.f10, .bool x.f11, .bool x.f12, .slice A4 x.f13.length k4, .slice A5 x.f14.length k5] * R)))) → Q .normal ⟨#[c0, c1, Value.pointer (some ⟨g, 0, none⟩), Value.pointer (some ⟨g + 1, 0, none⟩), c4, c5, v, u7, c8, c9, c10, c11, c12, c13, c14, c15, c16, c17, c18, c19, c20, c21, c22, c23, c24, c25, c26, c27, c28, c29, c30, c31, c32, c33, c34, c35, c36, c37, c38, c39, c40, c41, c42, c43, c44, u45, u46, u47, u48, u49, c50, c51, c52, c53, c54, c55, c56, c57, c58, c59], []⟩ wc) :
    Code.wp Try.prog bsr8_code Q ⟨#[c0, c1, Value.pointer (some ⟨g, 0, none⟩), Value.pointer (some ⟨g + 1, 0, none⟩), c4, c5, c6, c7, c8, c9, c10, c11, c12, c13, c14, c15, c16, c17, c18, c19, c20, c21, c22, c23, c24, c25, c26, c27, c28, c29, c30, c31, c32, c33, c34, c35, c36, c37, c38, c39, c40, c41, c42, c43, c44, c45, c46, c47, c48, c49, c50, c51, c52, c53, c54, c55, c56, c57, c58, c59], []⟩ w2 := by
  have HK := Aside0.mk hK
  clear hK
  conv => arg 2; whnf
  have z := fun i => HS.out.cell i
  have zz := fun i => HS.out.swap.cell i
  go_wp2_with (go_at_call 11; with_reducible refine (HPX.out _ HS.out.below).mono ?_; rintro e w4 ⟨v4, rfl, hr, hb⟩; obtain ⟨E1, e1, rfl, hc4, hs4⟩ := HS.out.pinR hb hr; have HS4 := Aside0.mk hs4; have HC4 := Aside0.mk hc4; clear hr hb hs4 hc4 z zz)
  apply HK.out
  exact ⟨E1, _, e1, rfl, rfl, HC4.out, HS4.out⟩
noncomputable def bsr9_code : Code := ((Try.f4.body).bind (regionIn 9)).getD .skip
set_option maxHeartbeats 16000000 in
set_option maxRecDepth 1000000 in
theorem bsr9 {c0 c1 c4 c5 c6 c7 c8 c9 c10 c11 c12 c13 c14 c15 c16 c17 c18 c19 c20 c21 c22 c23 c24 c25 c26 c27 c28 c29 c30 c31 c32 c33 c34 c35 c36 c37 c38 c39 c40 c41 c42 c43 c44 c45 c46 c47 c48 c49 c50 c51 c52 c53 c54 c55 c56 c57 c58 c59 : Value} {Q : Exit → Act → World → Prop} (x y : Dc) (w w2 : World) (g : Nat) (R : Asrt) {A1 A2 A3 A4 A5 : Option Addr} {k1 k2 k3 k4 k5 : Nat} {B1 B2 B3 B4 B5 : Option Addr} {d1 d2 d3 d4 d5 : Nat} (fx : List Int) (HS : Aside0 (St w w2 (Asrt.blk (g + 1) 27 #[.bool y.f0, .int .i64 y.f1, .int .i64 y.f2, .bool y.f3, .bool y.f4, .int .u32 y.f5, .int .i64 y.f6, .slice B1 y.f7.length d1, .slice B2 y.f8.length d2, .slice B3 y.f9.length d3, .bool y.f10, .bool y.f11, .bool y.f12, .slice B4 y.f13.length d4, .slice B5 y.f14.length d5] * (Asrt.blk g 27 #[.bool x.f0, .int .i64 x.f1, .int .i64 x.f2, .bool x.f3, .bool x.f4, .int .u32 x.f5, .int .i64 x.f6, .slice A1 x.f7.length k1, .slice A2 x.f8.length k2, .slice A3 x.f9.length k3, .bool x.f10, .bool x.f11, .bool x.f12, .slice A4 x.f13.length k4, .slice A5 x.f14.length k5] * R)))) (HPX : Aside0 (∀ W : World, Below w.heap.size w W → Calls Try.prog 11 #[.agg #[.bool y.f0, .int .i64 y.f1, .int .i64 y.f2, .bool y.f3, .bool y.f4, .int .u32 y.f5, .int .i64 y.f6, .slice B1 y.f7.length d1, .slice B2 y.f8.length d2, .slice B3 y.f9.length d3, .bool y.f10, .bool y.f11, .bool y.f12, .slice B4 y.f13.length d4, .slice B5 y.f14.length d5]] W fun e w' => ∃ v : Value, e = .returned (.tuple #[v, .int .i64 0]) ∧ Kd.R (Kd.int .u8) 5 w' W.heap.size (fun _ => True) v fx ∧ Below W.heap.size W w'))
    (hK : ∀ (v u51 u52 u50 u53 u54 u9 : Value) (wc : World), (∃ (E : Option Addr) (n c : Nat), v = .slice E n c ∧ n = fx.length ∧ n ≤ c ∧ St w wc (pin w (fun W => (Kd.int .u8).C W E n fx) * (Asrt.blk (g + 1) 27 #[.bool y.f0, .int .i64 y.f1, .int .i64 y.f2, .bool y.f3, .bool y.f4, .int .u32 y.f5, .int .i64 y.f6, .slice B1 y.f7.length d1, .slice B2 y.f8.length d2, .slice B3 y.f9.length d3, .bool y.f10, .bool y.f11, .bool y.f12, .slice B4 y.f13.length d4, .slice B5 y.f14.length d5] * (Asrt.blk g 27 #[.bool x.f0, .int .i64 x.f1, .int .i64 x.f2, .bool x.f3, .bool x.f4, .int .u32 x.f5, .int .i64 x.f6, .slice A1 x.f7.length k1, .slice A2 x.f8.length k2, .slice A3 x.f9.length k3, .bool x.f10, .bool x.f11, .bool x.f12, .slice A4 x.f13.length k4, .slice A5 x.f14.length k5] * R)))) → Q .normal ⟨#[c0, c1, Value.pointer (some ⟨g, 0, none⟩), Value.pointer (some ⟨g + 1, 0, none⟩), c4, c5, c6, c7, v, u9, c10, c11, c12, c13, c14, c15, c16, c17, c18, c19, c20, c21, c22, c23, c24, c25, c26, c27, c28, c29, c30, c31, c32, c33, c34, c35, c36, c37, c38, c39, c40, c41, c42, c43, c44, c45, c46, c47, c48, c49, u50, u51, u52, u53, u54, c55, c56, c57, c58, c59], []⟩ wc) :
    Code.wp Try.prog bsr9_code Q ⟨#[c0, c1, Value.pointer (some ⟨g, 0, none⟩), Value.pointer (some ⟨g + 1, 0, none⟩), c4, c5, c6, c7, c8, c9, c10, c11, c12, c13, c14, c15, c16, c17, c18, c19, c20, c21, c22, c23, c24, c25, c26, c27, c28, c29, c30, c31, c32, c33, c34, c35, c36, c37, c38, c39, c40, c41, c42, c43, c44, c45, c46, c47, c48, c49, c50, c51, c52, c53, c54, c55, c56, c57, c58, c59], []⟩ w2 := by
  have HK := Aside0.mk hK
  clear hK
  conv => arg 2; whnf
  have z := fun i => HS.out.cell i
  have zz := fun i => HS.out.swap.cell i
  go_wp2_with (go_at_call 11; with_reducible refine (HPX.out _ HS.out.below).mono ?_; rintro e w4 ⟨v4, rfl, hr, hb⟩; obtain ⟨E1, e1, rfl, hc4, hs4⟩ := HS.out.pinR hb hr; have HS4 := Aside0.mk hs4; have HC4 := Aside0.mk hc4; clear hr hb hs4 hc4 z zz)
  apply HK.out
  exact ⟨E1, _, e1, rfl, rfl, HC4.out, HS4.out⟩
end Go.Proofs.Ythkocpcjcpohcaa.Pure
end
section
namespace Go.Proofs.Ythkocpcjcpohcaa.Pure
open Go Go.RowKit Go.Proofs.Ythkocpcjcpohcaa.P Go.Proofs.YthkocpcjcpohcaaW.PrintWords Go.Proofs.YthkocpcjcpohcaaW.PrintLast Go.Proofs.YthkocpcjcpohcaaW.PrintMore Go.Proofs.Ythkocpcjcpohcaa.U
set_option linter.unusedVariables false
set_option linter.unusedSimpArgs false
attribute [local go_sem] max2_int min2_int max_two min_two max_three min_three max_four min_four
theorem wf_i64r {n : Int} (h : (Lit.int .i64 n).wf = true) : i64r n := by
  have := wf_i64 h
  unfold i64r
  omega
theorem dat_of {l : List Int} (h : l.length * 1 ≤ 140737488351232) (q : ∀ y ∈ l, (Lit.int .u8 y).wf = true) : datL l := ⟨bytes_wf q, by omega⟩
theorem chs_of {l : List Ch} (h : l.length * 40 ≤ 140737488351232) (q : ∀ y0 ∈ l, (y0.f0.size ≤ 140737488351232 ∧ (y0.f1.length ≤ maxLen ∧ y0.f1.length * 1 ≤ 140737488351232 ∧ ∀ y1 ∈ y0.f1, (Lit.int .u8 y1).wf = true))) : chsL l := ⟨h, fun c hc => ⟨(q c hc).1, dat_of (q c hc).2.2.1 (q c hc).2.2.2⟩⟩
theorem ok_of {b0 : Bool} {b1 b2 : Int} {b3 b4 : Bool} {b5 b6 : Int} {l7 l8 l9 : List Int} {b10 b11 b12 : Bool} {l13 : List Fr} {l14 : List Ch} (h1 : (Lit.int .i64 b1).wf = true) (h2 : (Lit.int .i64 b2).wf = true) (h5 : (Lit.int .u32 b5).wf = true) (h6 : (Lit.int .i64 b6).wf = true)
    (a7 : l7.length * 1 ≤ 140737488351232) (q7 : ∀ y ∈ l7, (Lit.int .u8 y).wf = true) (a8 : l8.length * 1 ≤ 140737488351232) (q8 : ∀ y ∈ l8, (Lit.int .u8 y).wf = true) (a9 : l9.length * 1 ≤ 140737488351232) (q9 : ∀ y ∈ l9, (Lit.int .u8 y).wf = true)
    (a13 : l13.length * 128 ≤ 140737488351232) (q13 : ∀ y0 ∈ l13, ((Lit.int .i64 y0.f0).wf = true ∧ (Lit.int .i64 y0.f1).wf = true ∧ (Lit.int .i64 y0.f2).wf = true ∧ (Lit.int .i64 y0.f3).wf = true ∧ (Lit.int .i64 y0.f4).wf = true ∧ True ∧ True ∧ (Lit.int .i64 y0.f7).wf = true ∧ (y0.f8.length ≤ maxLen ∧ y0.f8.length * 1 ≤ 140737488351232 ∧ ∀ y1 ∈ y0.f8, (Lit.int .u8 y1).wf = true) ∧ (y0.f9.length ≤ maxLen ∧ y0.f9.length * 1 ≤ 140737488351232 ∧ ∀ y1 ∈ y0.f9, (Lit.int .u8 y1).wf = true) ∧ (y0.f10.length ≤ maxLen ∧ y0.f10.length * 40 ≤ 140737488351232 ∧ ∀ y1 ∈ y0.f10, (y1.f0.size ≤ 140737488351232 ∧ (y1.f1.length ≤ maxLen ∧ y1.f1.length * 1 ≤ 140737488351232 ∧ ∀ y2 ∈ y1.f1, (Lit.int .u8 y2).wf = true))))) (a14 : l14.length * 40 ≤ 140737488351232) (q14 : ∀ y0 ∈ l14, (y0.f0.size ≤ 140737488351232 ∧ (y0.f1.length ≤ maxLen ∧ y0.f1.length * 1 ≤ 140737488351232 ∧ ∀ y1 ∈ y0.f1, (Lit.int .u8 y1).wf = true))) : okDc ⟨b0, b1, b2, b3, b4, b5, b6, l7, l8, l9, b10, b11, b12, l13, l14⟩ := by
  refine ⟨wf_i64r h1, wf_i64r h2, ?_, wf_i64r h6, dat_of a7 q7, dat_of a8 q8, dat_of a9 q9, ⟨a13, fun f hf => ?_⟩, chs_of a14 q14⟩
  · have := wf_u32 h5
    show 0 ≤ b5 ∧ b5 ≤ 4294967295
    omega
  · have h := q13 f hf
    exact ⟨wf_i64r h.1, wf_i64r h.2.1, wf_i64r h.2.2.1, wf_i64r h.2.2.2.1, wf_i64r h.2.2.2.2.1, wf_i64r h.2.2.2.2.2.2.2.1, dat_of h.2.2.2.2.2.2.2.2.1.2.1 h.2.2.2.2.2.2.2.2.1.2.2, dat_of h.2.2.2.2.2.2.2.2.2.1.2.1 h.2.2.2.2.2.2.2.2.2.1.2.2, chs_of h.2.2.2.2.2.2.2.2.2.2.2.1 h.2.2.2.2.2.2.2.2.2.2.2.2⟩
theorem print_inj {x y : Dc} (hx : soundP x) (hy : soundP y) (ox : okDc x) (oy : okDc y) (nx : smallN x < 20000) (ny : smallN y < 20000) : file (chunksV x) = file (chunksV y) ↔ x = y := by
  constructor
  · intro h
    have h1 := (parse_back hx ox nx ((x.f13.length : Int) + y.f13.length)).1 (.inl (by omega))
    have h2 := (parse_back hy oy ny ((x.f13.length : Int) + y.f13.length)).1 (.inl (by omega))
    rw [h, h2] at h1
    exact (Prod.mk.inj h1).1.symm
  · rintro rfl
    rfl
set_option maxHeartbeats 16000000 in
set_option maxRecDepth 100000 in
theorem bsA (x y : Dc) (cs ds : List Value) (w : World) (hx : k27.K w x cs) (hy : k27.K w y ds) (ox : okDc x) (oy : okDc y) (nx : ¬ smallN x < 20000) :
    Calls Try.prog 4 #[.agg cs.toArray, .agg ds.toArray] w fun e w' => e = .returned (.bool true) ∧ Below w.heap.size w w' := by
  have HA := Aside0.mk fun (W : World) => answers_calls W
  have HMX := Aside0.mk fun (W : World) (hb : Below w.heap.size w W) => small_calls x cs W (k27.K_below hb hx) ox
  rw [decide_eq_false nx] at HMX
  obtain ⟨A1, c1, A2, c2, A3, c3, A4, c4, A5, c5, rfl, l1, g1, l2, g2, l3, g3, l4, g4, l5, g5⟩ := k27_open hx
  obtain ⟨B1, d1, B2, d2, B3, d3, B4, d4, B5, d5, rfl, m1, h1, m2, h2, m3, h3, m4, h4, m5, h5⟩ := k27_open hy
  have HS := Aside0.mk (((St.refl w).alloc #[.bool x.f0, .int .i64 x.f1, .int .i64 x.f2, .bool x.f3, .bool x.f4, .int .u32 x.f5, .int .i64 x.f6, .slice A1 x.f7.length c1, .slice A2 x.f8.length c2, .slice A3 x.f9.length c3, .bool x.f10, .bool x.f11, .bool x.f12, .slice A4 x.f13.length c4, .slice A5 x.f14.length c5] 27).alloc #[.bool y.f0, .int .i64 y.f1, .int .i64 y.f2, .bool y.f3, .bool y.f4, .int .u32 y.f5, .int .i64 y.f6, .slice B1 y.f7.length d1, .slice B2 y.f8.length d2, .slice B3 y.f9.length d3, .bool y.f10, .bool y.f11, .bool y.f12, .slice B4 y.f13.length d4, .slice B5 y.f14.length d5] 27)
  have hgz : (w.alloc (.cells #[.bool x.f0, .int .i64 x.f1, .int .i64 x.f2, .bool x.f3, .bool x.f4, .int .u32 x.f5, .int .i64 x.f6, .slice A1 x.f7.length c1, .slice A2 x.f8.length c2, .slice A3 x.f9.length c3, .bool x.f10, .bool x.f11, .bool x.f12, .slice A4 x.f13.length c4, .slice A5 x.f14.length c5] 27)).heap.size = w.heap.size + 1 := by simp
  rw [hgz] at HS
  clear hx hy g1 g2 g3 g4 g5 h1 h2 h3 h4 h5 hgz l1 l2 l3 l4 l5 m1 m2 m3 m4 m5 ox oy
  go_enter Try.func4, Try.ntmps4
  go_upto_region 1 with (fail)
  generalize (w.alloc (.cells _ 27)).alloc (.cells _ 27) = W1 at HS ⊢
  generalize w.heap.size = g at HS ⊢
  have z := fun i => HS.out.swap.cell i
  go_wp2_with (first
    | (go_at_call 9; refine (HMX.out _ HS.out.below).mono ?_; rintro e w1 ⟨rfl, hb⟩; have HS1 := Aside0.mk (HS.out.belowR hb); clear hb)
    | (go_at_call 10; refine (HA.out _).mono ?_; rintro e w2 ⟨rfl, hb⟩; have HS2 := Aside0.mk (HS1.out.belowR hb); clear hb))
  go_ret
  exact ⟨rfl, HS2.out.below⟩
set_option maxHeartbeats 16000000 in
set_option maxRecDepth 100000 in
theorem bsB (x y : Dc) (cs ds : List Value) (w : World) (hx : k27.K w x cs) (hy : k27.K w y ds) (ox : okDc x) (oy : okDc y) (nx : smallN x < 20000) (ny : ¬ smallN y < 20000) :
    Calls Try.prog 4 #[.agg cs.toArray, .agg ds.toArray] w fun e w' => e = .returned (.bool true) ∧ Below w.heap.size w w' := by
  have HA := Aside0.mk fun (W : World) => answers_calls W
  have HMX := Aside0.mk fun (W : World) (hb : Below w.heap.size w W) => small_calls x cs W (k27.K_below hb hx) ox
  have HMY := Aside0.mk fun (W : World) (hb : Below w.heap.size w W) => small_calls y ds W (k27.K_below hb hy) oy
  rw [decide_eq_true nx] at HMX
  rw [decide_eq_false ny] at HMY
  obtain ⟨A1, c1, A2, c2, A3, c3, A4, c4, A5, c5, rfl, l1, g1, l2, g2, l3, g3, l4, g4, l5, g5⟩ := k27_open hx
  obtain ⟨B1, d1, B2, d2, B3, d3, B4, d4, B5, d5, rfl, m1, h1, m2, h2, m3, h3, m4, h4, m5, h5⟩ := k27_open hy
  have HS := Aside0.mk (((St.refl w).alloc #[.bool x.f0, .int .i64 x.f1, .int .i64 x.f2, .bool x.f3, .bool x.f4, .int .u32 x.f5, .int .i64 x.f6, .slice A1 x.f7.length c1, .slice A2 x.f8.length c2, .slice A3 x.f9.length c3, .bool x.f10, .bool x.f11, .bool x.f12, .slice A4 x.f13.length c4, .slice A5 x.f14.length c5] 27).alloc #[.bool y.f0, .int .i64 y.f1, .int .i64 y.f2, .bool y.f3, .bool y.f4, .int .u32 y.f5, .int .i64 y.f6, .slice B1 y.f7.length d1, .slice B2 y.f8.length d2, .slice B3 y.f9.length d3, .bool y.f10, .bool y.f11, .bool y.f12, .slice B4 y.f13.length d4, .slice B5 y.f14.length d5] 27)
  have hgz : (w.alloc (.cells #[.bool x.f0, .int .i64 x.f1, .int .i64 x.f2, .bool x.f3, .bool x.f4, .int .u32 x.f5, .int .i64 x.f6, .slice A1 x.f7.length c1, .slice A2 x.f8.length c2, .slice A3 x.f9.length c3, .bool x.f10, .bool x.f11, .bool x.f12, .slice A4 x.f13.length c4, .slice A5 x.f14.length c5] 27)).heap.size = w.heap.size + 1 := by simp
  rw [hgz] at HS
  clear hx hy g1 g2 g3 g4 g5 h1 h2 h3 h4 h5 hgz l1 l2 l3 l4 l5 m1 m2 m3 m4 m5 ox oy
  go_enter Try.func4, Try.ntmps4
  go_upto_region 1 with (fail)
  generalize (w.alloc (.cells _ 27)).alloc (.cells _ 27) = W1 at HS ⊢
  generalize w.heap.size = g at HS ⊢
  have z := fun i => HS.out.swap.cell i
  go_wp2_with (first
    | (go_at_call 9; refine (HMX.out _ HS.out.below).mono ?_; clear HMX; rintro e w1 ⟨rfl, hb⟩; have HS1 := Aside0.mk (HS.out.belowR hb); have z1 := fun i => HS1.out.cell i; clear hb z)
    | (go_at_call 9; refine (HMY.out _ HS1.out.below).mono ?_; rintro e w2 ⟨rfl, hb⟩; have HS2 := Aside0.mk (HS1.out.belowR hb); clear hb)
    | (go_at_call 10; refine (HA.out _).mono ?_; rintro e w3 ⟨rfl, hb⟩; have HS3 := Aside0.mk (HS2.out.belowR hb); clear hb))
  go_ret
  exact ⟨rfl, HS3.out.below⟩
set_option maxHeartbeats 16000000 in
set_option maxRecDepth 100000 in
theorem bsC (x y : Dc) (cs ds : List Value) (w : World) (hx : k27.K w x cs) (hy : k27.K w y ds) (ox : okDc x) (oy : okDc y) (nx : smallN x < 20000) (ny : smallN y < 20000) :
    Calls Try.prog 4 #[.agg cs.toArray, .agg ds.toArray] w fun e w' => e = .returned (.bool true) ∧ Below w.heap.size w w' := by
  have HA := Aside0.mk fun (W : World) => answers_calls W
  have HMX := Aside0.mk fun (W : World) (hb : Below w.heap.size w W) => small_calls x cs W (k27.K_below hb hx) ox
  have HMY := Aside0.mk fun (W : World) (hb : Below w.heap.size w W) => small_calls y ds W (k27.K_below hb hy) oy
  have HRS := Aside0.mk fun (W : World) (hb : Below w.heap.size w W) => refSame_calls x y cs ds W (k27.K_below hb hx) (k27.K_below hb hy) ox
  have HBS := Aside0.mk fun (W : World) (hb : Below w.heap.size w W) => Same_calls x y cs ds W (k27.K_below hb hx) (k27.K_below hb hy) ox oy
  have HBX := Aside0.mk fun (W : World) (hb : Below w.heap.size w W) => (by have h := Same_calls x x cs cs W (k27.K_below hb hx) (k27.K_below hb hx) ox ox; rwa [decide_eq_true rfl] at h : Calls Try.prog 19 #[.agg cs.toArray, .agg cs.toArray] W fun e w' => e = .returned (.bool true) ∧ Below W.heap.size W w')
  obtain ⟨p, hp⟩ : ∃ b : Bool, b = true ↔ soundP x := ⟨@decide (soundP x) (Classical.propDecidable _), by simp⟩
  obtain ⟨r, hr⟩ : ∃ b : Bool, b = true ↔ soundP y := ⟨@decide (soundP y) (Classical.propDecidable _), by simp⟩
  have HSX := Aside0.mk fun (W : World) (hb : Below w.heap.size w W) => refSound_calls x cs W (k27.K_below hb hx) ox nx p hp
  have HSY := Aside0.mk fun (W : World) (hb : Below w.heap.size w W) => refSound_calls y ds W (k27.K_below hb hy) oy ny r hr
  have HPX := Aside0.mk fun (W : World) (hb : Below w.heap.size w W) => PrintS_calls x cs W (k27.K_below hb hx) ox nx p hp
  have HPY := Aside0.mk fun (W : World) (hb : Below w.heap.size w W) => PrintS_calls y ds W (k27.K_below hb hy) oy ny r hr
  have HIN : Aside0 (p = true → r = true → (file (chunksV x) = file (chunksV y) ↔ x = y) ∧ ((lay (chunksV x)).length < 400000 ∧ (file (chunksV x)).length < 400012) ∧ ((lay (chunksV y)).length < 400000 ∧ (file (chunksV y)).length < 400012)) := ⟨fun h1 h2 => ⟨print_inj (hp.1 h1) (hr.1 h2) ox oy nx ny, file_sz (hp.1 h1) nx, file_sz (hr.1 h2) ny⟩⟩
  rw [decide_eq_true nx] at HMX
  rw [decide_eq_true ny] at HMY
  obtain ⟨q, hq⟩ : ∃ q, decide (x = y) = q := ⟨_, rfl⟩
  rw [hq] at HRS HBS
  have HQ := Aside0.mk hq
  clear hp hr hq nx ny
  obtain ⟨A1, c1, A2, c2, A3, c3, A4, c4, A5, c5, rfl, l1, g1, l2, g2, l3, g3, l4, g4, l5, g5⟩ := k27_open hx
  obtain ⟨B1, d1, B2, d2, B3, d3, B4, d4, B5, d5, rfl, m1, h1, m2, h2, m3, h3, m4, h4, m5, h5⟩ := k27_open hy
  have HS := Aside0.mk (((St.refl w).alloc #[.bool x.f0, .int .i64 x.f1, .int .i64 x.f2, .bool x.f3, .bool x.f4, .int .u32 x.f5, .int .i64 x.f6, .slice A1 x.f7.length c1, .slice A2 x.f8.length c2, .slice A3 x.f9.length c3, .bool x.f10, .bool x.f11, .bool x.f12, .slice A4 x.f13.length c4, .slice A5 x.f14.length c5] 27).alloc #[.bool y.f0, .int .i64 y.f1, .int .i64 y.f2, .bool y.f3, .bool y.f4, .int .u32 y.f5, .int .i64 y.f6, .slice B1 y.f7.length d1, .slice B2 y.f8.length d2, .slice B3 y.f9.length d3, .bool y.f10, .bool y.f11, .bool y.f12, .slice B4 y.f13.length d4, .slice B5 y.f14.length d5] 27)
  have hgz : (w.alloc (.cells #[.bool x.f0, .int .i64 x.f1, .int .i64 x.f2, .bool x.f3, .bool x.f4, .int .u32 x.f5, .int .i64 x.f6, .slice A1 x.f7.length c1, .slice A2 x.f8.length c2, .slice A3 x.f9.length c3, .bool x.f10, .bool x.f11, .bool x.f12, .slice A4 x.f13.length c4, .slice A5 x.f14.length c5] 27)).heap.size = w.heap.size + 1 := by simp
  rw [hgz] at HS
  clear hx hy g1 g2 g3 g4 g5 h1 h2 h3 h4 h5 hgz l1 l2 l3 l4 l5 m1 m2 m3 m4 m5 ox oy
  go_enter Try.func4, Try.ntmps4
  go_upto_region 1 with (fail)
  generalize (w.alloc (.cells _ 27)).alloc (.cells _ 27) = W1 at HS ⊢
  generalize w.heap.size = g at HS ⊢
  refine bsr1 x y w _ g _ HS HMX HMY ?_
  intro v u10 u11 u12 u13 u14 u15 u16 wc hcut
  obtain ⟨rfl, hs⟩ := hcut
  clear HS HMX HMY
  have HS := Aside0.mk hs
  clear hs
  go_upto_region 3 with (fail)
  refine bsr3 x y w _ g _ q HS HRS ?_
  intro v u19 u20 u21 wc hcut
  obtain ⟨rfl, hs⟩ := hcut
  clear HS HRS
  have HS := Aside0.mk hs
  clear hs
  go_upto_region 4 with (fail)
  refine bsr4 x y w _ g _ q HS HA HBS HBX ?_
  intro v u22 u23 u24 u25 u26 u27 u28 u29 u30 u31 u32 u33 u34 u35 wc hcut
  obtain ⟨rfl, hs⟩ := hcut
  clear HS HA HBS HBX
  have HS := Aside0.mk hs
  clear hs
  go_upto_region 6 with (fail)
  refine bsr6 x y w _ g _ p r HS HSX HSY ?_
  intro v u37 u38 u39 u40 u41 u42 u43 wc hcut
  obtain ⟨rfl, hs⟩ := hcut
  clear HS HSX HSY
  have HS := Aside0.mk hs
  clear hs
  cases hpr : (p && r) with
  | false =>
    clear HPX HPY HIN hpr
    go_wp2_with fail
    go_ret
    exact ⟨rfl, HS.out.below⟩
  | true =>
    rw [Bool.and_eq_true] at hpr
    obtain ⟨rfl, rfl⟩ := hpr
    have HIN' := Aside0.mk (HIN.out rfl rfl)
    have HL1 := Aside0.mk (show (file (chunksV x)).length ≤ 140737488351232 by have := HIN'.out.2.1.2; omega)
    rw [show printV true (chunksV x) = file (chunksV x) from rfl, show printE true = 0 from rfl] at HPX
    rw [show printV true (chunksV y) = file (chunksV y) from rfl, show printE true = 0 from rfl] at HPY
    clear HIN
    generalize file (chunksV x) = fx at HPX HIN' HL1
    generalize file (chunksV y) = fy at HPY HIN'
    go_upto_region 8 with (fail)
    refine bsr8 x y w _ g _ fx HS HPX ?_
    intro v u46 u47 u45 u48 u49 u7 wc hcut
    obtain ⟨E1, n1, e1, rfl, rfl, he1, hs⟩ := hcut
    clear HS HPX
    have HS := Aside0.mk hs.unrot3
    have HE1 := Aside0.mk he1
    clear hs he1
    go_upto_region 9 with (fail)
    refine bsr9 x y w _ g _ fy HS HPY ?_
    intro v u51 u52 u50 u53 u54 u9 wc hcut
    obtain ⟨E2, n2, e2, rfl, rfl, he2, hs⟩ := hcut
    have HP1 := Aside0.mk hs.drop.drop.drop.pinGet
    have HP2 := Aside0.mk hs.pinGet
    have HB := Aside0.mk hs.below
    have HE2 := Aside0.mk he2
    clear HS HPY hs he2
    go_wp2_with (go_at_call 15; with_reducible refine (rSame_calls E1 e1 fx E2 e2 fy _ HL1.out HP1.out HE1.out HP2.out HE2.out).mono ?_; rintro e w6 ⟨rfl, hd⟩; have HB6 := Aside0.mk (HB.out.trans ((show Below _ _ w6 by obtain ⟨n, hn⟩ := hd; exact hn ▸ pw_below_drewN (Below.refl _ _) n).mono HB.out.size)); clear hd)
    go_ret
    refine ⟨?_, HB6.out⟩
    have e : decide (fx = fy) = q := by
      rw [← HQ.out]
      exact decide_eq_decide.2 HIN'.out.1
    rw [e]
    simp
set_option maxHeartbeats 16000000 in
set_option maxRecDepth 100000 in
theorem BoxSame_calls (x y : Dc) (cs ds : List Value) (w : World) (hx : k27.K w x cs) (hy : k27.K w y ds) (ox : okDc x) (oy : okDc y) :
    Calls Try.prog 4 #[.agg cs.toArray, .agg ds.toArray] w fun e w' => e = .returned (.bool true) ∧ Below w.heap.size w w' := by
  by_cases nx : smallN x < 20000
  · by_cases ny : smallN y < 20000
    · exact bsC x y cs ds w hx hy ox oy nx ny
    · exact bsB x y cs ds w hx hy ox oy nx ny
  · exact bsA x y cs ds w hx hy ox oy nx
theorem BoxSame (b0x : Bool) (b1x b2x : Int) (b3x b4x : Bool) (b5x b6x : Int) (A7x : Option Addr) (c7x : Nat) (l7x : List Int) (A8x : Option Addr) (c8x : Nat) (l8x : List Int) (A9x : Option Addr) (c9x : Nat) (l9x : List Int) (b10x b11x b12x : Bool) (A13x : Option Addr) (c13x : Nat) (l13x : List Fr) (A14x : Option Addr) (c14x : Nat) (l14x : List Ch) (b0y : Bool) (b1y b2y : Int) (b3y b4y : Bool) (b5y b6y : Int) (A7y : Option Addr) (c7y : Nat) (l7y : List Int) (A8y : Option Addr) (c8y : Nat) (l8y : List Int) (A9y : Option Addr) (c9y : Nat) (l9y : List Int) (b10y b11y b12y : Bool) (A13y : Option Addr) (c13y : Nat) (l13y : List Fr) (A14y : Option Addr) (c14y : Nat) (l14y : List Ch) (w : World) (h1x : (Lit.int .i64 b1x).wf = true) (h2x : (Lit.int .i64 b2x).wf = true) (h5x : (Lit.int .u32 b5x).wf = true) (h6x : (Lit.int .i64 b6x).wf = true) (_ : l7x.length ≤ maxLen) (hl7x : l7x.length * 1 ≤ 140737488351232) (ql7x : ∀ y0 ∈ l7x, (Lit.int .u8 y0).wf = true) (_ : l8x.length ≤ maxLen) (hl8x : l8x.length * 1 ≤ 140737488351232) (ql8x : ∀ y0 ∈ l8x, (Lit.int .u8 y0).wf = true) (_ : l9x.length ≤ maxLen) (hl9x : l9x.length * 1 ≤ 140737488351232) (ql9x : ∀ y0 ∈ l9x, (Lit.int .u8 y0).wf = true) (_ : l13x.length ≤ maxLen) (hl13x : l13x.length * 128 ≤ 140737488351232) (ql13x : ∀ y0 ∈ l13x, ((Lit.int .i64 y0.f0).wf = true ∧ (Lit.int .i64 y0.f1).wf = true ∧ (Lit.int .i64 y0.f2).wf = true ∧ (Lit.int .i64 y0.f3).wf = true ∧ (Lit.int .i64 y0.f4).wf = true ∧ True ∧ True ∧ (Lit.int .i64 y0.f7).wf = true ∧ (y0.f8.length ≤ maxLen ∧ y0.f8.length * 1 ≤ 140737488351232 ∧ ∀ y1 ∈ y0.f8, (Lit.int .u8 y1).wf = true) ∧ (y0.f9.length ≤ maxLen ∧ y0.f9.length * 1 ≤ 140737488351232 ∧ ∀ y1 ∈ y0.f9, (Lit.int .u8 y1).wf = true) ∧ (y0.f10.length ≤ maxLen ∧ y0.f10.length * 40 ≤ 140737488351232 ∧ ∀ y1 ∈ y0.f10, (y1.f0.size ≤ 140737488351232 ∧ (y1.f1.length ≤ maxLen ∧ y1.f1.length * 1 ≤ 140737488351232 ∧ ∀ y2 ∈ y1.f1, (Lit.int .u8 y2).wf = true))))) (_ : l14x.length ≤ maxLen) (hl14x : l14x.length * 40 ≤ 140737488351232) (ql14x : ∀ y0 ∈ l14x, (y0.f0.size ≤ 140737488351232 ∧ (y0.f1.length ≤ maxLen ∧ y0.f1.length * 1 ≤ 140737488351232 ∧ ∀ y1 ∈ y0.f1, (Lit.int .u8 y1).wf = true))) (h1y : (Lit.int .i64 b1y).wf = true) (h2y : (Lit.int .i64 b2y).wf = true) (h5y : (Lit.int .u32 b5y).wf = true) (h6y : (Lit.int .i64 b6y).wf = true) (_ : l7y.length ≤ maxLen) (hl7y : l7y.length * 1 ≤ 140737488351232) (ql7y : ∀ y0 ∈ l7y, (Lit.int .u8 y0).wf = true) (_ : l8y.length ≤ maxLen) (hl8y : l8y.length * 1 ≤ 140737488351232) (ql8y : ∀ y0 ∈ l8y, (Lit.int .u8 y0).wf = true) (_ : l9y.length ≤ maxLen) (hl9y : l9y.length * 1 ≤ 140737488351232) (ql9y : ∀ y0 ∈ l9y, (Lit.int .u8 y0).wf = true) (_ : l13y.length ≤ maxLen) (hl13y : l13y.length * 128 ≤ 140737488351232) (ql13y : ∀ y0 ∈ l13y, ((Lit.int .i64 y0.f0).wf = true ∧ (Lit.int .i64 y0.f1).wf = true ∧ (Lit.int .i64 y0.f2).wf = true ∧ (Lit.int .i64 y0.f3).wf = true ∧ (Lit.int .i64 y0.f4).wf = true ∧ True ∧ True ∧ (Lit.int .i64 y0.f7).wf = true ∧ (y0.f8.length ≤ maxLen ∧ y0.f8.length * 1 ≤ 140737488351232 ∧ ∀ y1 ∈ y0.f8, (Lit.int .u8 y1).wf = true) ∧ (y0.f9.length ≤ maxLen ∧ y0.f9.length * 1 ≤ 140737488351232 ∧ ∀ y1 ∈ y0.f9, (Lit.int .u8 y1).wf = true) ∧ (y0.f10.length ≤ maxLen ∧ y0.f10.length * 40 ≤ 140737488351232 ∧ ∀ y1 ∈ y0.f10, (y1.f0.size ≤ 140737488351232 ∧ (y1.f1.length ≤ maxLen ∧ y1.f1.length * 1 ≤ 140737488351232 ∧ ∀ y2 ∈ y1.f1, (Lit.int .u8 y2).wf = true))))) (_ : l14y.length ≤ maxLen) (hl14y : l14y.length * 40 ≤ 140737488351232) (ql14y : ∀ y0 ∈ l14y, (y0.f0.size ≤ 140737488351232 ∧ (y0.f1.length ≤ maxLen ∧ y0.f1.length * 1 ≤ 140737488351232 ∧ ∀ y1 ∈ y0.f1, (Lit.int .u8 y1).wf = true))) (g7x : (Kd.int .u8).C w A7x l7x.length l7x) (m7x : l7x.length ≤ c7x) (g8x : (Kd.int .u8).C w A8x l8x.length l8x) (m8x : l8x.length ≤ c8x) (g9x : (Kd.int .u8).C w A9x l9x.length l9x) (m9x : l9x.length ≤ c9x) (g13x : k44.C w A13x l13x.length l13x) (m13x : l13x.length ≤ c13x) (g14x : k42.C w A14x l14x.length l14x) (m14x : l14x.length ≤ c14x) (g7y : (Kd.int .u8).C w A7y l7y.length l7y) (m7y : l7y.length ≤ c7y) (g8y : (Kd.int .u8).C w A8y l8y.length l8y) (m8y : l8y.length ≤ c8y) (g9y : (Kd.int .u8).C w A9y l9y.length l9y) (m9y : l9y.length ≤ c9y) (g13y : k44.C w A13y l13y.length l13y) (m13y : l13y.length ≤ c13y) (g14y : k42.C w A14y l14y.length l14y) (m14y : l14y.length ≤ c14y) :
    Calls Try.prog 4 #[.agg #[.bool b0x, .int .i64 b1x, .int .i64 b2x, .bool b3x, .bool b4x, .int .u32 b5x, .int .i64 b6x, .slice A7x l7x.length c7x, .slice A8x l8x.length c8x, .slice A9x l9x.length c9x, .bool b10x, .bool b11x, .bool b12x, .slice A13x l13x.length c13x, .slice A14x l14x.length c14x], .agg #[.bool b0y, .int .i64 b1y, .int .i64 b2y, .bool b3y, .bool b4y, .int .u32 b5y, .int .i64 b6y, .slice A7y l7y.length c7y, .slice A8y l8y.length c8y, .slice A9y l9y.length c9y, .bool b10y, .bool b11y, .bool b12y, .slice A13y l13y.length c13y, .slice A14y l14y.length c14y]] w fun e w' => e = .returned (.bool true) ∧ Below w.heap.size w w' :=
  BoxSame_calls ⟨b0x, b1x, b2x, b3x, b4x, b5x, b6x, l7x, l8x, l9x, b10x, b11x, b12x, l13x, l14x⟩ ⟨b0y, b1y, b2y, b3y, b4y, b5y, b6y, l7y, l8y, l9y, b10y, b11y, b12y, l13y, l14y⟩ _ _ w (k27_mk w (⟨b0x, b1x, b2x, b3x, b4x, b5x, b6x, l7x, l8x, l9x, b10x, b11x, b12x, l13x, l14x⟩ : Dc) m7x g7x m8x g8x m9x g9x m13x g13x m14x g14x) (k27_mk w (⟨b0y, b1y, b2y, b3y, b4y, b5y, b6y, l7y, l8y, l9y, b10y, b11y, b12y, l13y, l14y⟩ : Dc) m7y g7y m8y g8y m9y g9y m13y g13y m14y g14y) (ok_of h1x h2x h5x h6x hl7x ql7x hl8x ql8x hl9x ql9x hl13x ql13x hl14x ql14x) (ok_of h1y h2y h5y h6y hl7y ql7y hl8y ql8y hl9y ql9y hl13y ql13y hl14y ql14y)
end Go.Proofs.Ythkocpcjcpohcaa.Pure
end
