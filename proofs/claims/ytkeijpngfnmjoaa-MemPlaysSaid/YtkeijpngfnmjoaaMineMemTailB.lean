/- MemPlays, behind its loop: the range is brought into the memory, and both tell the same bytes. Its conditions: what the loop leaves. -/
import Derived.Test.YtkeijpngfnmjoaaMineMemTailD
namespace Go.Proofs.Ytkeijpngfnmjoaa.MineMem
open Go.RowKit Go.Proofs.YtkeijpngfnmjoaaW.PrintWords Go.Proofs.YtkeijpngfnmjoaaW.PrintLast Go.Proofs.YtkeijpngfnmjoaaW.PrintMore Go.Proofs.Ytkeijpngfnmjoaa.MineBase Go.Proofs.Ytkeijpngfnmjoaa.QMemPlays
set_option linter.unusedVariables false
set_option linter.unusedSimpArgs false
attribute [local go_sem] Go.Proofs.Ytkeijpngfnmjoaa.MineErr.eql_err Go.Proofs.Ytkeijpngfnmjoaa.MineErr.neq_err Go.Proofs.Ytkeijpngfnmjoaa.MineErr.eql_nil_err Go.Proofs.Ytkeijpngfnmjoaa.MineErr.neq_nil_err
set_option maxHeartbeats 20000000 in
set_option maxRecDepth 100000 in
theorem tailB (g r o n : Nat) (bs : List Int) (w W : World) (X T : Int) (HO : Both w W g r o bs n) (hn4 : n ≤ 4096) (hn1 : 0 < n) (hTn0 : T ≤ n) (hX0 : 0 ≤ X) (hXT : T ≤ X) (u1 u4 u5 u6 u7 u8 u11 u13 u14 u15 u16 u17 u18 u19 u20 u21 u22 u23 u24 u25 u26 u27 u28 u29 u30 u31 u32 u33 u34 u35 u36 u37 u38 u39 u40 u41 u42 u43 u44 u45 u46 u47 u48 u49 u50 u51 u52 u53 u54 u55 u56 u57 u58 u59 u60 u61 u62 u63 u64 u65 u66 u67 u68 u69 u70 u71 u72 u73 u74 u75 u76 u77 u78 u79 u80 u81 u82 u83 u84 u85 u86 u87 u88 u89 u90 u91 u92 u93 u94 u95 u96 u97 u98 u99 u100 u101 u102 u103 u104 u105 u106 u107 u108 u109 u110 u111 u112 u113 u114 u115 u116 u117 u118 u119 u120 u121 u122 u123 u124 u125 u126 u127 u128 u129 u130 u131 u132 u133 u134 u135 u136 u137 u138 u139 u140 u141 u142 u143 u144 u145 u146 u147 u148 u149 u150 u151 u152 u153 u154 u155 u156 u157 u158 u159 u160 u161 u162 u163 u164 u165 u166 u167 u168 u169 u170 u171 u172 u173 u174 u175 u176 u177 u178 u179 u180 u181 u182 u183 u184 u185 u186 u187 u188 u189 u190 u191 u192 u193 u194 u195 u196 u197 u198 u199 u200 u201 u202 u203 u204 u205 u206 u207 u208 u209 u210 u211 u212 u213 u214 u215 u216 u217 u218 u219 u220 u221 u222 u223 u224 u225 u226 u227 u228 u229 u230 u231 u232 u233 u234 u235 u236 u237 u238 u239 u240 u241 u242 u243 u244 u245 u246 u247 u248 u249 u250 u251 u252 u253 u254 u255 u256 u257 u258 u259 u260 u261 u262 : Value) :
    Code.wp Try.prog tail50 (bodyPost Try.prog Try.f4 fun e w' => e = .returned (.bool true) ∧ Below w.heap.size w w') ⟨#[.int .i64 (n : Int), u1, .int .i64 X, .int .i64 T, u4, u5, u6, u7, u8, .bool true, .pointer (some ⟨g, 0, none⟩), u11, .slice (some ⟨o, 0, none⟩) n n, u13, u14, u15, u16, u17, u18, u19, u20, u21, u22, u23, u24, u25, u26, u27, u28, u29, u30, u31, u32, u33, u34, u35, u36, u37, u38, u39, u40, u41, u42, u43, u44, u45, u46, u47, u48, u49, u50, u51, u52, u53, u54, u55, u56, u57, u58, u59, u60, u61, u62, u63, u64, u65, u66, u67, u68, u69, u70, u71, u72, u73, u74, u75, u76, u77, u78, u79, u80, u81, u82, u83, u84, u85, u86, u87, u88, u89, u90, u91, u92, u93, u94, u95, u96, u97, u98, u99, u100, u101, u102, u103, u104, u105, u106, u107, u108, u109, u110, u111, u112, u113, u114, u115, u116, u117, u118, u119, u120, u121, u122, u123, u124, u125, u126, u127, u128, u129, u130, u131, u132, u133, u134, u135, u136, u137, u138, u139, u140, u141, u142, u143, u144, u145, u146, u147, u148, u149, u150, u151, u152, u153, u154, u155, u156, u157, u158, u159, u160, u161, u162, u163, u164, u165, u166, u167, u168, u169, u170, u171, u172, u173, u174, u175, u176, u177, u178, u179, u180, u181, u182, u183, u184, u185, u186, u187, u188, u189, u190, u191, u192, u193, u194, u195, u196, u197, u198, u199, u200, u201, u202, u203, u204, u205, u206, u207, u208, u209, u210, u211, u212, u213, u214, u215, u216, u217, u218, u219, u220, u221, u222, u223, u224, u225, u226, u227, u228, u229, u230, u231, u232, u233, u234, u235, u236, u237, u238, u239, u240, u241, u242, u243, u244, u245, u246, u247, u248, u249, u250, u251, u252, u253, u254, u255, u256, u257, u258, u259, u260, u261, u262], []⟩ W := by
  have hTn := Aside0.mk (show (if (bs.length : Int) < (n : Int) then (bs.length : Int) else (n : Int)) = (n : Int) by rw [HO.len, if_neg (Int.lt_irrefl _)])
  have hT := Aside0.mk (show (if (bs.length : Int) < T then (bs.length : Int) else T) = T by rw [HO.len, if_neg (by omega)])
  have hn0 := Aside0.mk (show (0 : Int) < (n : Int) by omega)
  have HOd := Aside0.mk HO.drew
  have ho0 := HO.drew.str hn4
  have Hxt := Aside0.mk (show T ≤ (if X < 0 then 0 else X) by split <;> omega)
  have p1 : decide (0 ≤ X) = true := decide_eq_true hX0
  have p2 : decide (X < T) = false := decide_eq_false (by omega)
  clear hX0 hXT
  have HO' := Aside0.mk HO
  clear HO hn1 hTn0
  conv => arg 2; whnf
  go_wp2_with fail
  go_region_law (first
    | (go_simp; go_at_call 15; (with_reducible refine (Bytes_none g r bs X T _ T w _ HO5.out.mem HO5.out.below rfl hT.out Hxt.out).mono ?_); rintro e6 w6 ⟨rfl, hI6, hB6, hK6⟩; have HB6 := Aside0.mk hB6; have hs6 : (convert 34 9 (.slice none 0 0)).run Try.prog w6 = .ok (.string ⟨#[]⟩) w6 := conv_nil w6; clear hI6 hB6 hK6)
    | (go_simp; go_at_call 15; (with_reducible refine (Bytes_some g r bs 0 (n : Int) 0 (n : Int) w _ HOd.out.mem HOd.out.below rfl hTn.out hn0.out).mono ?_); rw [all_cut HOd.out.len]; rintro e5 w5 ⟨v5, rfl, hR5, hI5, hB5, hK5⟩; have HO5 := Aside0.mk (HOd.out.call hI5 hB5 hK5 (.inl rfl) (.inr rfl)); obtain ⟨A5, c5, e5, hs5⟩ := got_str hR5; rw [HOd.out.len] at e5 hs5; subst e5; have ho5 := HO5.out.str hn4; clear hR5 hI5 hB5 hK5))
  all_goals (go_wp2; go_ret; exact ⟨by first | rfl | (simp; done), HB6.out⟩)
end Go.Proofs.Ytkeijpngfnmjoaa.MineMem
