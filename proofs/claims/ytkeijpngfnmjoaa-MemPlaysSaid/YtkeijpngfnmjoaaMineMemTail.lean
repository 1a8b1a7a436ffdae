/- MemPlays, behind its loop: the range is brought into the memory, and both tell the same bytes. Its conditions: what the loop leaves. -/
import Derived.Test.YtkeijpngfnmjoaaMineMemTailA
import Derived.Test.YtkeijpngfnmjoaaMineMemTailB
import Derived.Test.YtkeijpngfnmjoaaMineMemTailC
namespace Go.Proofs.Ytkeijpngfnmjoaa.MineMem
open Go.RowKit Go.Proofs.YtkeijpngfnmjoaaW.PrintWords Go.Proofs.YtkeijpngfnmjoaaW.PrintLast Go.Proofs.YtkeijpngfnmjoaaW.PrintMore Go.Proofs.Ytkeijpngfnmjoaa.MineBase Go.Proofs.Ytkeijpngfnmjoaa.QMemPlays
set_option linter.unusedVariables false
set_option linter.unusedSimpArgs false
attribute [local go_sem] Go.Proofs.Ytkeijpngfnmjoaa.MineErr.eql_err Go.Proofs.Ytkeijpngfnmjoaa.MineErr.neq_err Go.Proofs.Ytkeijpngfnmjoaa.MineErr.eql_nil_err Go.Proofs.Ytkeijpngfnmjoaa.MineErr.neq_nil_err
set_option maxHeartbeats 8000000 in
set_option maxRecDepth 100000 in
theorem tail44_wp (g r o n : Nat) (bs : List Int) (w W : World) (f t : Int) (HO0 : Both w W g r o bs n) (hn40 : n ≤ 4096) (hn10 : 0 < n) (u1 u4 u5 u6 u7 u8 u11 u13 u14 u15 u16 u17 u18 u19 u20 u21 u22 u23 u24 u25 u26 u27 u28 u29 u30 u31 u32 u33 u34 u35 u36 u37 u38 u39 u40 u41 u42 u43 u44 u45 u46 u47 u48 u49 u50 u51 u52 u53 u54 u55 u56 u57 u58 u59 u60 u61 u62 u63 u64 u65 u66 u67 u68 u69 u70 u71 u72 u73 u74 u75 u76 u77 u78 u79 u80 u81 u82 u83 u84 u85 u86 u87 u88 u89 u90 u91 u92 u93 u94 u95 u96 u97 u98 u99 u100 u101 u102 u103 u104 u105 u106 u107 u108 u109 u110 u111 u112 u113 u114 u115 u116 u117 u118 u119 u120 u121 u122 u123 u124 u125 u126 u127 u128 u129 u130 u131 u132 u133 u134 u135 u136 u137 u138 u139 u140 u141 u142 u143 u144 u145 u146 u147 u148 u149 u150 u151 u152 u153 u154 u155 u156 u157 u158 u159 u160 u161 u162 u163 u164 u165 u166 u167 u168 u169 u170 u171 u172 u173 u174 u175 u176 u177 u178 u179 u180 u181 u182 u183 u184 u185 u186 u187 u188 u189 u190 u191 u192 u193 u194 u195 u196 u197 u198 u199 u200 u201 u202 u203 u204 u205 u206 u207 u208 u209 u210 u211 u212 u213 u214 u215 u216 u217 u218 u219 u220 u221 u222 u223 u224 u225 u226 u227 u228 u229 u230 u231 u232 u233 u234 u235 u236 u237 u238 u239 u240 u241 u242 u243 u244 u245 u246 u247 u248 u249 u250 u251 u252 u253 u254 u255 u256 u257 u258 u259 u260 u261 u262 : Value) :
    Code.wp Try.prog tail44 (bodyPost Try.prog Try.f4 fun e w' => e = .returned (.bool true) ∧ Below w.heap.size w w') ⟨#[.int .i64 (n : Int), u1, .int .i64 f, .int .i64 t, u4, u5, u6, u7, u8, .bool true, .pointer (some ⟨g, 0, none⟩), u11, .slice (some ⟨o, 0, none⟩) n n, u13, u14, u15, u16, u17, u18, u19, u20, u21, u22, u23, u24, u25, u26, u27, u28, u29, u30, u31, u32, u33, u34, u35, u36, u37, u38, u39, u40, u41, u42, u43, u44, u45, u46, u47, u48, u49, u50, u51, u52, u53, u54, u55, u56, u57, u58, u59, u60, u61, u62, u63, u64, u65, u66, u67, u68, u69, u70, u71, u72, u73, u74, u75, u76, u77, u78, u79, u80, u81, u82, u83, u84, u85, u86, u87, u88, u89, u90, u91, u92, u93, u94, u95, u96, u97, u98, u99, u100, u101, u102, u103, u104, u105, u106, u107, u108, u109, u110, u111, u112, u113, u114, u115, u116, u117, u118, u119, u120, u121, u122, u123, u124, u125, u126, u127, u128, u129, u130, u131, u132, u133, u134, u135, u136, u137, u138, u139, u140, u141, u142, u143, u144, u145, u146, u147, u148, u149, u150, u151, u152, u153, u154, u155, u156, u157, u158, u159, u160, u161, u162, u163, u164, u165, u166, u167, u168, u169, u170, u171, u172, u173, u174, u175, u176, u177, u178, u179, u180, u181, u182, u183, u184, u185, u186, u187, u188, u189, u190, u191, u192, u193, u194, u195, u196, u197, u198, u199, u200, u201, u202, u203, u204, u205, u206, u207, u208, u209, u210, u211, u212, u213, u214, u215, u216, u217, u218, u219, u220, u221, u222, u223, u224, u225, u226, u227, u228, u229, u230, u231, u232, u233, u234, u235, u236, u237, u238, u239, u240, u241, u242, u243, u244, u245, u246, u247, u248, u249, u250, u251, u252, u253, u254, u255, u256, u257, u258, u259, u260, u261, u262], []⟩ W := by
  have HO := Aside0.mk HO0
  have hn4 := Aside0.mk hn40
  have hn1 := Aside0.mk hn10
  clear HO0 hn40
  conv => arg 2; whnf
  by_cases h1 : f < 0
  · have h1b : decide (f < 0) = true := decide_eq_true h1
    by_cases h2 : (n : Int) < t
    · have h2b : decide ((n : Int) < t) = true := decide_eq_true h2
      have h3b : decide ((n : Int) < 0) = false := decide_eq_false (by omega)
      have H := Aside0.mk (tailA g r o n bs w W 0 (n : Int) HO.out hn4.out hn1.out (by omega) (by omega) (by omega))
      clear h1 h2
      refine wp_seq_k (fun K hK => ?_)
      have HK := Aside0.mk hK
      clear hK
      go_wp2
      refine HK.out _ _ ?_
      clear HK
      refine wp_seq_k (fun K hK => ?_)
      have HK := Aside0.mk hK
      clear hK
      go_wp2
      refine HK.out _ _ ?_
      clear HK
      refine wp_seq_k (fun K hK => ?_)
      have HK := Aside0.mk hK
      clear hK
      go_wp2
      refine HK.out _ _ ?_
      clear HK
      exact H.out _ _ _ _ _ _ _ _ _ _ _ _ _ _ _ _ _ _ _ _ _ _ _ _ _ _ _ _ _ _ _ _ _ _ _ _ _ _ _ _ _ _ _ _ _ _ _ _ _ _ _ _ _ _ _ _ _ _ _ _ _ _ _ _ _ _ _ _ _ _ _ _ _ _ _ _ _ _ _ _ _ _ _ _ _ _ _ _ _ _ _ _ _ _ _ _ _ _ _ _ _ _ _ _ _ _ _ _ _ _ _ _ _ _ _ _ _ _ _ _ _ _ _ _ _ _ _ _ _ _ _ _ _ _ _ _ _ _ _ _ _ _ _ _ _ _ _ _ _ _ _ _ _ _ _ _ _ _ _ _ _ _ _ _ _ _ _ _ _ _ _ _ _ _ _ _ _ _ _ _ _ _ _ _ _ _ _ _ _ _ _ _ _ _ _ _ _ _ _ _ _ _ _ _ _ _ _ _ _ _ _ _ _ _ _ _ _ _ _ _ _ _ _ _ _ _ _ _ _ _ _ _ _ _ _ _ _ _ _ _ _ _ _ _ _ _ _ _ _ _ _ _ _ _ _ _ _
    · have h2b : decide ((n : Int) < t) = false := decide_eq_false (by omega)
      by_cases h3 : t < 0
      · have h3b : decide (t < 0) = true := decide_eq_true h3
        have H := Aside0.mk (tailC g r o n bs w W t t HO.out hn4.out hn1.out (by omega) (by omega) (by omega))
        clear h1 h2 h3
        refine wp_seq_k (fun K hK => ?_)
        have HK := Aside0.mk hK
        clear hK
        go_wp2
        refine HK.out _ _ ?_
        clear HK
        refine wp_seq_k (fun K hK => ?_)
        have HK := Aside0.mk hK
        clear hK
        go_wp2
        refine HK.out _ _ ?_
        clear HK
        refine wp_seq_k (fun K hK => ?_)
        have HK := Aside0.mk hK
        clear hK
        go_wp2
        refine HK.out _ _ ?_
        clear HK
        exact H.out _ _ _ _ _ _ _ _ _ _ _ _ _ _ _ _ _ _ _ _ _ _ _ _ _ _ _ _ _ _ _ _ _ _ _ _ _ _ _ _ _ _ _ _ _ _ _ _ _ _ _ _ _ _ _ _ _ _ _ _ _ _ _ _ _ _ _ _ _ _ _ _ _ _ _ _ _ _ _ _ _ _ _ _ _ _ _ _ _ _ _ _ _ _ _ _ _ _ _ _ _ _ _ _ _ _ _ _ _ _ _ _ _ _ _ _ _ _ _ _ _ _ _ _ _ _ _ _ _ _ _ _ _ _ _ _ _ _ _ _ _ _ _ _ _ _ _ _ _ _ _ _ _ _ _ _ _ _ _ _ _ _ _ _ _ _ _ _ _ _ _ _ _ _ _ _ _ _ _ _ _ _ _ _ _ _ _ _ _ _ _ _ _ _ _ _ _ _ _ _ _ _ _ _ _ _ _ _ _ _ _ _ _ _ _ _ _ _ _ _ _ _ _ _ _ _ _ _ _ _ _ _ _ _ _ _ _ _ _ _ _ _ _ _ _ _ _ _ _ _ _ _ _ _ _ _ _
      · have h3b : decide (t < 0) = false := decide_eq_false (by omega)
        by_cases h4 : 0 < t
        · skip
          have H := Aside0.mk (tailA g r o n bs w W 0 t HO.out hn4.out hn1.out (by omega) (by omega) (by omega))
          clear h1 h2 h3 h4
          refine wp_seq_k (fun K hK => ?_)
          have HK := Aside0.mk hK
          clear hK
          go_wp2
          refine HK.out _ _ ?_
          clear HK
          refine wp_seq_k (fun K hK => ?_)
          have HK := Aside0.mk hK
          clear hK
          go_wp2
          refine HK.out _ _ ?_
          clear HK
          refine wp_seq_k (fun K hK => ?_)
          have HK := Aside0.mk hK
          clear hK
          go_wp2
          refine HK.out _ _ ?_
          clear HK
          exact H.out _ _ _ _ _ _ _ _ _ _ _ _ _ _ _ _ _ _ _ _ _ _ _ _ _ _ _ _ _ _ _ _ _ _ _ _ _ _ _ _ _ _ _ _ _ _ _ _ _ _ _ _ _ _ _ _ _ _ _ _ _ _ _ _ _ _ _ _ _ _ _ _ _ _ _ _ _ _ _ _ _ _ _ _ _ _ _ _ _ _ _ _ _ _ _ _ _ _ _ _ _ _ _ _ _ _ _ _ _ _ _ _ _ _ _ _ _ _ _ _ _ _ _ _ _ _ _ _ _ _ _ _ _ _ _ _ _ _ _ _ _ _ _ _ _ _ _ _ _ _ _ _ _ _ _ _ _ _ _ _ _ _ _ _ _ _ _ _ _ _ _ _ _ _ _ _ _ _ _ _ _ _ _ _ _ _ _ _ _ _ _ _ _ _ _ _ _ _ _ _ _ _ _ _ _ _ _ _ _ _ _ _ _ _ _ _ _ _ _ _ _ _ _ _ _ _ _ _ _ _ _ _ _ _ _ _ _ _ _ _ _ _ _ _ _ _ _ _ _ _ _ _ _ _ _ _ _
        · skip
          have H := Aside0.mk (tailB g r o n bs w W 0 t HO.out hn4.out hn1.out (by omega) (by omega) (by omega))
          clear h1 h2 h3 h4
          refine wp_seq_k (fun K hK => ?_)
          have HK := Aside0.mk hK
          clear hK
          go_wp2
          refine HK.out _ _ ?_
          clear HK
          refine wp_seq_k (fun K hK => ?_)
          have HK := Aside0.mk hK
          clear hK
          go_wp2
          refine HK.out _ _ ?_
          clear HK
          refine wp_seq_k (fun K hK => ?_)
          have HK := Aside0.mk hK
          clear hK
          go_wp2
          refine HK.out _ _ ?_
          clear HK
          exact H.out _ _ _ _ _ _ _ _ _ _ _ _ _ _ _ _ _ _ _ _ _ _ _ _ _ _ _ _ _ _ _ _ _ _ _ _ _ _ _ _ _ _ _ _ _ _ _ _ _ _ _ _ _ _ _ _ _ _ _ _ _ _ _ _ _ _ _ _ _ _ _ _ _ _ _ _ _ _ _ _ _ _ _ _ _ _ _ _ _ _ _ _ _ _ _ _ _ _ _ _ _ _ _ _ _ _ _ _ _ _ _ _ _ _ _ _ _ _ _ _ _ _ _ _ _ _ _ _ _ _ _ _ _ _ _ _ _ _ _ _ _ _ _ _ _ _ _ _ _ _ _ _ _ _ _ _ _ _ _ _ _ _ _ _ _ _ _ _ _ _ _ _ _ _ _ _ _ _ _ _ _ _ _ _ _ _ _ _ _ _ _ _ _ _ _ _ _ _ _ _ _ _ _ _ _ _ _ _ _ _ _ _ _ _ _ _ _ _ _ _ _ _ _ _ _ _ _ _ _ _ _ _ _ _ _ _ _ _ _ _ _ _ _ _ _ _ _ _ _ _ _ _ _ _ _ _ _
  · have h1b : decide (f < 0) = false := decide_eq_false (by omega)
    by_cases h2 : (n : Int) < t
    · have h2b : decide ((n : Int) < t) = true := decide_eq_true h2
      by_cases h3 : (n : Int) < f
      · have h3b : decide ((n : Int) < f) = true := decide_eq_true h3
        have H := Aside0.mk (tailB g r o n bs w W (n : Int) (n : Int) HO.out hn4.out hn1.out (by omega) (by omega) (by omega))
        clear h1 h2 h3
        refine wp_seq_k (fun K hK => ?_)
        have HK := Aside0.mk hK
        clear hK
        go_wp2
        refine HK.out _ _ ?_
        clear HK
        refine wp_seq_k (fun K hK => ?_)
        have HK := Aside0.mk hK
        clear hK
        go_wp2
        refine HK.out _ _ ?_
        clear HK
        refine wp_seq_k (fun K hK => ?_)
        have HK := Aside0.mk hK
        clear hK
        go_wp2
        refine HK.out _ _ ?_
        clear HK
        exact H.out _ _ _ _ _ _ _ _ _ _ _ _ _ _ _ _ _ _ _ _ _ _ _ _ _ _ _ _ _ _ _ _ _ _ _ _ _ _ _ _ _ _ _ _ _ _ _ _ _ _ _ _ _ _ _ _ _ _ _ _ _ _ _ _ _ _ _ _ _ _ _ _ _ _ _ _ _ _ _ _ _ _ _ _ _ _ _ _ _ _ _ _ _ _ _ _ _ _ _ _ _ _ _ _ _ _ _ _ _ _ _ _ _ _ _ _ _ _ _ _ _ _ _ _ _ _ _ _ _ _ _ _ _ _ _ _ _ _ _ _ _ _ _ _ _ _ _ _ _ _ _ _ _ _ _ _ _ _ _ _ _ _ _ _ _ _ _ _ _ _ _ _ _ _ _ _ _ _ _ _ _ _ _ _ _ _ _ _ _ _ _ _ _ _ _ _ _ _ _ _ _ _ _ _ _ _ _ _ _ _ _ _ _ _ _ _ _ _ _ _ _ _ _ _ _ _ _ _ _ _ _ _ _ _ _ _ _ _ _ _ _ _ _ _ _ _ _ _ _ _ _ _ _ _ _ _ _
      · have h3b : decide ((n : Int) < f) = false := decide_eq_false (by omega)
        by_cases h4 : f < (n : Int)
        · skip
          have H := Aside0.mk (tailA g r o n bs w W f (n : Int) HO.out hn4.out hn1.out (by omega) (by omega) (by omega))
          clear h1 h2 h3 h4
          refine wp_seq_k (fun K hK => ?_)
          have HK := Aside0.mk hK
          clear hK
          go_wp2
          refine HK.out _ _ ?_
          clear HK
          refine wp_seq_k (fun K hK => ?_)
          have HK := Aside0.mk hK
          clear hK
          go_wp2
          refine HK.out _ _ ?_
          clear HK
          refine wp_seq_k (fun K hK => ?_)
          have HK := Aside0.mk hK
          clear hK
          go_wp2
          refine HK.out _ _ ?_
          clear HK
          exact H.out _ _ _ _ _ _ _ _ _ _ _ _ _ _ _ _ _ _ _ _ _ _ _ _ _ _ _ _ _ _ _ _ _ _ _ _ _ _ _ _ _ _ _ _ _ _ _ _ _ _ _ _ _ _ _ _ _ _ _ _ _ _ _ _ _ _ _ _ _ _ _ _ _ _ _ _ _ _ _ _ _ _ _ _ _ _ _ _ _ _ _ _ _ _ _ _ _ _ _ _ _ _ _ _ _ _ _ _ _ _ _ _ _ _ _ _ _ _ _ _ _ _ _ _ _ _ _ _ _ _ _ _ _ _ _ _ _ _ _ _ _ _ _ _ _ _ _ _ _ _ _ _ _ _ _ _ _ _ _ _ _ _ _ _ _ _ _ _ _ _ _ _ _ _ _ _ _ _ _ _ _ _ _ _ _ _ _ _ _ _ _ _ _ _ _ _ _ _ _ _ _ _ _ _ _ _ _ _ _ _ _ _ _ _ _ _ _ _ _ _ _ _ _ _ _ _ _ _ _ _ _ _ _ _ _ _ _ _ _ _ _ _ _ _ _ _ _ _ _ _ _ _ _ _ _ _ _
        · skip
          have H := Aside0.mk (tailB g r o n bs w W f (n : Int) HO.out hn4.out hn1.out (by omega) (by omega) (by omega))
          clear h1 h2 h3 h4
          refine wp_seq_k (fun K hK => ?_)
          have HK := Aside0.mk hK
          clear hK
          go_wp2
          refine HK.out _ _ ?_
          clear HK
          refine wp_seq_k (fun K hK => ?_)
          have HK := Aside0.mk hK
          clear hK
          go_wp2
          refine HK.out _ _ ?_
          clear HK
          refine wp_seq_k (fun K hK => ?_)
          have HK := Aside0.mk hK
          clear hK
          go_wp2
          refine HK.out _ _ ?_
          clear HK
          exact H.out _ _ _ _ _ _ _ _ _ _ _ _ _ _ _ _ _ _ _ _ _ _ _ _ _ _ _ _ _ _ _ _ _ _ _ _ _ _ _ _ _ _ _ _ _ _ _ _ _ _ _ _ _ _ _ _ _ _ _ _ _ _ _ _ _ _ _ _ _ _ _ _ _ _ _ _ _ _ _ _ _ _ _ _ _ _ _ _ _ _ _ _ _ _ _ _ _ _ _ _ _ _ _ _ _ _ _ _ _ _ _ _ _ _ _ _ _ _ _ _ _ _ _ _ _ _ _ _ _ _ _ _ _ _ _ _ _ _ _ _ _ _ _ _ _ _ _ _ _ _ _ _ _ _ _ _ _ _ _ _ _ _ _ _ _ _ _ _ _ _ _ _ _ _ _ _ _ _ _ _ _ _ _ _ _ _ _ _ _ _ _ _ _ _ _ _ _ _ _ _ _ _ _ _ _ _ _ _ _ _ _ _ _ _ _ _ _ _ _ _ _ _ _ _ _ _ _ _ _ _ _ _ _ _ _ _ _ _ _ _ _ _ _ _ _ _ _ _ _ _ _ _ _ _ _ _ _
    · have h2b : decide ((n : Int) < t) = false := decide_eq_false (by omega)
      by_cases h3 : t < f
      · have h3b : decide (t < f) = true := decide_eq_true h3
        by_cases h4 : 0 ≤ t
        · skip
          have H := Aside0.mk (tailB g r o n bs w W t t HO.out hn4.out hn1.out (by omega) (by omega) (by omega))
          clear h1 h2 h3 h4
          refine wp_seq_k (fun K hK => ?_)
          have HK := Aside0.mk hK
          clear hK
          go_wp2
          refine HK.out _ _ ?_
          clear HK
          refine wp_seq_k (fun K hK => ?_)
          have HK := Aside0.mk hK
          clear hK
          go_wp2
          refine HK.out _ _ ?_
          clear HK
          refine wp_seq_k (fun K hK => ?_)
          have HK := Aside0.mk hK
          clear hK
          go_wp2
          refine HK.out _ _ ?_
          clear HK
          exact H.out _ _ _ _ _ _ _ _ _ _ _ _ _ _ _ _ _ _ _ _ _ _ _ _ _ _ _ _ _ _ _ _ _ _ _ _ _ _ _ _ _ _ _ _ _ _ _ _ _ _ _ _ _ _ _ _ _ _ _ _ _ _ _ _ _ _ _ _ _ _ _ _ _ _ _ _ _ _ _ _ _ _ _ _ _ _ _ _ _ _ _ _ _ _ _ _ _ _ _ _ _ _ _ _ _ _ _ _ _ _ _ _ _ _ _ _ _ _ _ _ _ _ _ _ _ _ _ _ _ _ _ _ _ _ _ _ _ _ _ _ _ _ _ _ _ _ _ _ _ _ _ _ _ _ _ _ _ _ _ _ _ _ _ _ _ _ _ _ _ _ _ _ _ _ _ _ _ _ _ _ _ _ _ _ _ _ _ _ _ _ _ _ _ _ _ _ _ _ _ _ _ _ _ _ _ _ _ _ _ _ _ _ _ _ _ _ _ _ _ _ _ _ _ _ _ _ _ _ _ _ _ _ _ _ _ _ _ _ _ _ _ _ _ _ _ _ _ _ _ _ _ _ _ _ _ _ _
        · skip
          have H := Aside0.mk (tailC g r o n bs w W t t HO.out hn4.out hn1.out (by omega) (by omega) (by omega))
          clear h1 h2 h3 h4
          refine wp_seq_k (fun K hK => ?_)
          have HK := Aside0.mk hK
          clear hK
          go_wp2
          refine HK.out _ _ ?_
          clear HK
          refine wp_seq_k (fun K hK => ?_)
          have HK := Aside0.mk hK
          clear hK
          go_wp2
          refine HK.out _ _ ?_
          clear HK
          refine wp_seq_k (fun K hK => ?_)
          have HK := Aside0.mk hK
          clear hK
          go_wp2
          refine HK.out _ _ ?_
          clear HK
          exact H.out _ _ _ _ _ _ _ _ _ _ _ _ _ _ _ _ _ _ _ _ _ _ _ _ _ _ _ _ _ _ _ _ _ _ _ _ _ _ _ _ _ _ _ _ _ _ _ _ _ _ _ _ _ _ _ _ _ _ _ _ _ _ _ _ _ _ _ _ _ _ _ _ _ _ _ _ _ _ _ _ _ _ _ _ _ _ _ _ _ _ _ _ _ _ _ _ _ _ _ _ _ _ _ _ _ _ _ _ _ _ _ _ _ _ _ _ _ _ _ _ _ _ _ _ _ _ _ _ _ _ _ _ _ _ _ _ _ _ _ _ _ _ _ _ _ _ _ _ _ _ _ _ _ _ _ _ _ _ _ _ _ _ _ _ _ _ _ _ _ _ _ _ _ _ _ _ _ _ _ _ _ _ _ _ _ _ _ _ _ _ _ _ _ _ _ _ _ _ _ _ _ _ _ _ _ _ _ _ _ _ _ _ _ _ _ _ _ _ _ _ _ _ _ _ _ _ _ _ _ _ _ _ _ _ _ _ _ _ _ _ _ _ _ _ _ _ _ _ _ _ _ _ _ _ _ _ _
      · have h3b : decide (t < f) = false := decide_eq_false (by omega)
        by_cases h4 : f < t
        · skip
          have H := Aside0.mk (tailA g r o n bs w W f t HO.out hn4.out hn1.out (by omega) (by omega) (by omega))
          clear h1 h2 h3 h4
          refine wp_seq_k (fun K hK => ?_)
          have HK := Aside0.mk hK
          clear hK
          go_wp2
          refine HK.out _ _ ?_
          clear HK
          refine wp_seq_k (fun K hK => ?_)
          have HK := Aside0.mk hK
          clear hK
          go_wp2
          refine HK.out _ _ ?_
          clear HK
          refine wp_seq_k (fun K hK => ?_)
          have HK := Aside0.mk hK
          clear hK
          go_wp2
          refine HK.out _ _ ?_
          clear HK
          exact H.out _ _ _ _ _ _ _ _ _ _ _ _ _ _ _ _ _ _ _ _ _ _ _ _ _ _ _ _ _ _ _ _ _ _ _ _ _ _ _ _ _ _ _ _ _ _ _ _ _ _ _ _ _ _ _ _ _ _ _ _ _ _ _ _ _ _ _ _ _ _ _ _ _ _ _ _ _ _ _ _ _ _ _ _ _ _ _ _ _ _ _ _ _ _ _ _ _ _ _ _ _ _ _ _ _ _ _ _ _ _ _ _ _ _ _ _ _ _ _ _ _ _ _ _ _ _ _ _ _ _ _ _ _ _ _ _ _ _ _ _ _ _ _ _ _ _ _ _ _ _ _ _ _ _ _ _ _ _ _ _ _ _ _ _ _ _ _ _ _ _ _ _ _ _ _ _ _ _ _ _ _ _ _ _ _ _ _ _ _ _ _ _ _ _ _ _ _ _ _ _ _ _ _ _ _ _ _ _ _ _ _ _ _ _ _ _ _ _ _ _ _ _ _ _ _ _ _ _ _ _ _ _ _ _ _ _ _ _ _ _ _ _ _ _ _ _ _ _ _ _ _ _ _ _ _ _ _
        · skip
          have H := Aside0.mk (tailB g r o n bs w W f t HO.out hn4.out hn1.out (by omega) (by omega) (by omega))
          clear h1 h2 h3 h4
          refine wp_seq_k (fun K hK => ?_)
          have HK := Aside0.mk hK
          clear hK
          go_wp2
          refine HK.out _ _ ?_
          clear HK
          refine wp_seq_k (fun K hK => ?_)
          have HK := Aside0.mk hK
          clear hK
          go_wp2
          refine HK.out _ _ ?_
          clear HK
          refine wp_seq_k (fun K hK => ?_)
          have HK := Aside0.mk hK
          clear hK
          go_wp2
          refine HK.out _ _ ?_
          clear HK
          exact H.out _ _ _ _ _ _ _ _ _ _ _ _ _ _ _ _ _ _ _ _ _ _ _ _ _ _ _ _ _ _ _ _ _ _ _ _ _ _ _ _ _ _ _ _ _ _ _ _ _ _ _ _ _ _ _ _ _ _ _ _ _ _ _ _ _ _ _ _ _ _ _ _ _ _ _ _ _ _ _ _ _ _ _ _ _ _ _ _ _ _ _ _ _ _ _ _ _ _ _ _ _ _ _ _ _ _ _ _ _ _ _ _ _ _ _ _ _ _ _ _ _ _ _ _ _ _ _ _ _ _ _ _ _ _ _ _ _ _ _ _ _ _ _ _ _ _ _ _ _ _ _ _ _ _ _ _ _ _ _ _ _ _ _ _ _ _ _ _ _ _ _ _ _ _ _ _ _ _ _ _ _ _ _ _ _ _ _ _ _ _ _ _ _ _ _ _ _ _ _ _ _ _ _ _ _ _ _ _ _ _ _ _ _ _ _ _ _ _ _ _ _ _ _ _ _ _ _ _ _ _ _ _ _ _ _ _ _ _ _ _ _ _ _ _ _ _ _ _ _ _ _ _ _ _ _ _ _
end Go.Proofs.Ytkeijpngfnmjoaa.MineMem
