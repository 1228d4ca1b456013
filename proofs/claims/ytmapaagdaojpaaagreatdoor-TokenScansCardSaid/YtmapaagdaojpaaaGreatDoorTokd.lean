/- The scanner's token: its tail. -/
import Derived.Test.YtmapaagdaojpaaaGreatDoorTok
namespace Go.Proofs.YtmapaagdaojpaaaGreatDoor
open Go.RowKit

set_option maxHeartbeats 2000000 in
set_option maxRecDepth 100000 in
theorem tail_ok (B b : Nat) (s : ByteArray) (at_ : Nat) (sp : List (Nat × Nat)) (v : Value) (w : World) (R : TokR) (hs : s.size ≤ 40000) (hbs : b < w.heap.size) (hvl : ∀ k, v.ownBlock = some k → k < w.heap.size) : TailOk B b s at_ sp v w R tokTail := by
  intro kind fin wr tx u0 u3 u4 u5 u6 u8 u9 u10 u11 u12 u13 u14 u15 u16 u17 u18 u19 u20 u21 u22 u23 u24 u25 u26 u27 u28 u29 u30 u31 u32 u33 u34 u35 u36 u37 u38 u39 u40 u41 u42 u43 u44 u45 u46 u47 u48 u49 u50 u51 u52 u53 u54 u55 u56 u57 u58 u59 u60 u61 u62 u63 u64 u65 u66 u67 u68 u69 u70 u71 u72 u73 u74 u75 u76 u77 u78 u79 u80 u81 u82 u83 u84 u85 u86 u87 u88 u89 u90 u91 u92 u93 u94 u95 u96 u97 u98 u99 u100 u101 u102 u103 u104 u105 u106 u107 u108 u109 u110 u111 u112 u113 u114 u115 u116 u117 u118 u119 u120 u121 u122 u123 u124 u125 u126 u127 u128 u129 u130 u131 u132 u133 u134 u135 u136 u137 u138 u139 u140 u141 u142 u143 u144 u145 u146 u147 u148 u149 u150 u151 u152 u153 u154 u155 u156 u157 u158 u159 u160 u161 u162 u163 u164 u165 u166 u167 u168 u169 u170 u171 u172 u173 u174 u175 u176 u177 u178 u179 u180 u181 u182 u183 u184 u185 u186 u187 u188 u189 u190 u191 u192 u193 u194 u195 u196 u197 u198 u199 u200 u201 u202 u203 u204 u205 u206 u207 u208 u209 u210 u211 u212 u213 u214 u215 u216 u217 u218 u219 u220 u221 u222 u223 u224 u225 u226 u227 u228 u229 u230 u231 u232 u233 u234 u235 HNr HTX hT hlw
  have hp := hT.nm_cell
  have hc0 := hT.scan.row.c0
  have hc1 := hT.scan.row.c1
  have hfs := hT.scan.le
  obtain ⟨y, hy⟩ : ∃ y : Nat, bt s fin = y := ⟨(bt s fin).toNat, by have := bt_lo s fin; omega⟩
  have hy1 : y < 256 := by have := bt_hi s fin; omega
  have hy2 : (y : Int) < 256 := by omega
  have hcy := hT.scan.row.c2 y hy1
  have HE : Hid (nearB s fin = (decide (fin < s.size) && (cls y == 2 || cls y == 3 || (y : Int) == 45 || (y : Int) == 95 || (y : Int) == 46))) := by
    unfold nearB; rw [hy]; rfl
  generalize cls y = cz at hcy HE
  conv => arg 2; whnf
  go_wp2_with fail
  refine (next0 b s fin v wr (by omega) hT.scan.row).mono ?_
  rintro e w1 ⟨rfl, k1, rfl⟩
  rw [hy]
  clear hy
  have near_yes : nearB s fin = true → Hid (R = .bad 44 fin) := fun h => Lib.hid (near_bad HNr.out h)
  have near_no : nearB s fin = false → Hid (R = .ok kind (s.extract at_ fin) fin) := fun h => Lib.hid (near_ok HNr.out h)
  rw [HE.out] at near_yes near_no
  clear HE
  by_cases hf : fin < s.size
  · have g0 : decide (fin < s.size) = true := decide_eq_true hf
    rw [g0] at near_yes near_no
    by_cases t2 : (cz == 2) = true
    · have HN := near_yes (by simp only [t2]; rfl)
      clear near_yes near_no
      go_wp2_with fail
      go_quiet (fail)
      go_wp2_with fail
      first
        | generalize hWd : (wr.drewN _).drewN _ = W6
        | generalize hWd : wr.drewN _ = W6
      have hT6 : TokW B b s at_ fin sp v w W6 #[.int .i64 kind, .string tx, .int .i64 at_] := by
        rw [← hWd]
        first
          | exact (hT.drewN _).drewN _
          | exact hT.drewN _
      clear hWd
      have hp6 := hT6.nm_cell
      have hc6 := hT6.scan.row.c1
      have tE := tokw_err (hT6)
      obtain ⟨t0, t1, t2, f0, f1, f2⟩ := tE
      have hple := (hT6).pl_cell
      have HTK := Lib.hid (hT6)
      have hlt6 : w.heap.size + 1 < W6.heap.size := by have := hT6.lt; omega
      go_region
      all_goals go_wp2
      all_goals
        refine bodyPost_ret (v := .tuple #[.agg zTok, .iface 110 (.pointer (some ⟨W6.heap.size, 0, none⟩))]) ?_ rfl ?_
        · exact results_row_tmp rfl _ _ (w.heap.size + 1) 27 zTok (0, 0) _ _ rfl rfl (tokw_err_heap HTK.out _ ⟨rfl, rfl, rfl, rfl⟩) Tryz.underlying27 rfl (info_tok _ rfl)
        · rw [HN.out]
          exact tokw_err_post HTK.out _ _ _ (rfl) ⟨rfl, rfl, rfl, rfl⟩
    · have t2f : ((cz == 2)) = false := by simpa using t2
      by_cases t3 : (cz == 3) = true
      · have HN := near_yes (by simp only [t3, t2f]; rfl)
        clear near_yes near_no
        go_wp2_with fail
        go_quiet (fail)
        go_wp2_with fail
        first
          | generalize hWd : (wr.drewN _).drewN _ = W6
          | generalize hWd : wr.drewN _ = W6
        have hT6 : TokW B b s at_ fin sp v w W6 #[.int .i64 kind, .string tx, .int .i64 at_] := by
          rw [← hWd]
          first
            | exact (hT.drewN _).drewN _
            | exact hT.drewN _
        clear hWd
        have hp6 := hT6.nm_cell
        have hc6 := hT6.scan.row.c1
        have tE := tokw_err (hT6)
        obtain ⟨t0, t1, t2, f0, f1, f2⟩ := tE
        have hple := (hT6).pl_cell
        have HTK := Lib.hid (hT6)
        have hlt6 : w.heap.size + 1 < W6.heap.size := by have := hT6.lt; omega
        go_region
        all_goals go_wp2
        all_goals
          refine bodyPost_ret (v := .tuple #[.agg zTok, .iface 110 (.pointer (some ⟨W6.heap.size, 0, none⟩))]) ?_ rfl ?_
          · exact results_row_tmp rfl _ _ (w.heap.size + 1) 27 zTok (0, 0) _ _ rfl rfl (tokw_err_heap HTK.out _ ⟨rfl, rfl, rfl, rfl⟩) Tryz.underlying27 rfl (info_tok _ rfl)
          · rw [HN.out]
            exact tokw_err_post HTK.out _ _ _ (rfl) ⟨rfl, rfl, rfl, rfl⟩
      · have t3f : ((cz == 3)) = false := by simpa using t3
        by_cases t45 : ((y : Int) == 45) = true
        · have HN := near_yes (by simp only [t45, t2f, t3f]; rfl)
          clear near_yes near_no
          go_wp2_with fail
          go_quiet (fail)
          go_wp2_with fail
          first
            | generalize hWd : (wr.drewN _).drewN _ = W6
            | generalize hWd : wr.drewN _ = W6
          have hT6 : TokW B b s at_ fin sp v w W6 #[.int .i64 kind, .string tx, .int .i64 at_] := by
            rw [← hWd]
            first
              | exact (hT.drewN _).drewN _
              | exact hT.drewN _
          clear hWd
          have hp6 := hT6.nm_cell
          have hc6 := hT6.scan.row.c1
          have tE := tokw_err (hT6)
          obtain ⟨t0, t1, t2, f0, f1, f2⟩ := tE
          have hple := (hT6).pl_cell
          have HTK := Lib.hid (hT6)
          have hlt6 : w.heap.size + 1 < W6.heap.size := by have := hT6.lt; omega
          go_region
          all_goals go_wp2
          all_goals
            refine bodyPost_ret (v := .tuple #[.agg zTok, .iface 110 (.pointer (some ⟨W6.heap.size, 0, none⟩))]) ?_ rfl ?_
            · exact results_row_tmp rfl _ _ (w.heap.size + 1) 27 zTok (0, 0) _ _ rfl rfl (tokw_err_heap HTK.out _ ⟨rfl, rfl, rfl, rfl⟩) Tryz.underlying27 rfl (info_tok _ rfl)
            · rw [HN.out]
              exact tokw_err_post HTK.out _ _ _ (rfl) ⟨rfl, rfl, rfl, rfl⟩
        · have t45f : (((y : Int) == 45)) = false := by simpa using t45
          by_cases t95 : ((y : Int) == 95) = true
          · have HN := near_yes (by simp only [t95, t2f, t3f, t45f]; rfl)
            clear near_yes near_no
            go_wp2_with fail
            go_quiet (fail)
            go_wp2_with fail
            first
              | generalize hWd : (wr.drewN _).drewN _ = W6
              | generalize hWd : wr.drewN _ = W6
            have hT6 : TokW B b s at_ fin sp v w W6 #[.int .i64 kind, .string tx, .int .i64 at_] := by
              rw [← hWd]
              first
                | exact (hT.drewN _).drewN _
                | exact hT.drewN _
            clear hWd
            have hp6 := hT6.nm_cell
            have hc6 := hT6.scan.row.c1
            have tE := tokw_err (hT6)
            obtain ⟨t0, t1, t2, f0, f1, f2⟩ := tE
            have hple := (hT6).pl_cell
            have HTK := Lib.hid (hT6)
            have hlt6 : w.heap.size + 1 < W6.heap.size := by have := hT6.lt; omega
            go_region
            all_goals go_wp2
            all_goals
              refine bodyPost_ret (v := .tuple #[.agg zTok, .iface 110 (.pointer (some ⟨W6.heap.size, 0, none⟩))]) ?_ rfl ?_
              · exact results_row_tmp rfl _ _ (w.heap.size + 1) 27 zTok (0, 0) _ _ rfl rfl (tokw_err_heap HTK.out _ ⟨rfl, rfl, rfl, rfl⟩) Tryz.underlying27 rfl (info_tok _ rfl)
              · rw [HN.out]
                exact tokw_err_post HTK.out _ _ _ (rfl) ⟨rfl, rfl, rfl, rfl⟩
          · have t95f : (((y : Int) == 95)) = false := by simpa using t95
            by_cases t46 : ((y : Int) == 46) = true
            · have HN := near_yes (by simp only [t46, t2f, t3f, t45f, t95f]; rfl)
              clear near_yes near_no
              go_wp2_with fail
              go_quiet (fail)
              go_wp2_with fail
              first
                | generalize hWd : (wr.drewN _).drewN _ = W6
                | generalize hWd : wr.drewN _ = W6
              have hT6 : TokW B b s at_ fin sp v w W6 #[.int .i64 kind, .string tx, .int .i64 at_] := by
                rw [← hWd]
                first
                  | exact (hT.drewN _).drewN _
                  | exact hT.drewN _
              clear hWd
              have hp6 := hT6.nm_cell
              have hc6 := hT6.scan.row.c1
              have tE := tokw_err (hT6)
              obtain ⟨t0, t1, t2, f0, f1, f2⟩ := tE
              have hple := (hT6).pl_cell
              have HTK := Lib.hid (hT6)
              have hlt6 : w.heap.size + 1 < W6.heap.size := by have := hT6.lt; omega
              go_region
              all_goals go_wp2
              all_goals
                refine bodyPost_ret (v := .tuple #[.agg zTok, .iface 110 (.pointer (some ⟨W6.heap.size, 0, none⟩))]) ?_ rfl ?_
                · exact results_row_tmp rfl _ _ (w.heap.size + 1) 27 zTok (0, 0) _ _ rfl rfl (tokw_err_heap HTK.out _ ⟨rfl, rfl, rfl, rfl⟩) Tryz.underlying27 rfl (info_tok _ rfl)
                · rw [HN.out]
                  exact tokw_err_post HTK.out _ _ _ (rfl) ⟨rfl, rfl, rfl, rfl⟩
            · have t46f : (((y : Int) == 46)) = false := by simpa using t46
              have HN := near_no (by simp only [t2f, t3f, t45f, t95f, t46f]; rfl)
              clear near_yes near_no
              go_wp2_with fail
              go_quiet (fail)
              go_wp2_with (first
                | (refine wpList_load_row rfl 27 (.tmp 7) rfl (w.heap.size + 3) rfl 27 #[.int .i64 kind, .string tx, .int .i64 at_] (0, 0) _ hT.tok Tryz.underlying27 rfl (info_tok _ rfl) ?_)
                | (refine wpList_store_row rfl 27 (.tmp 2) (.tmp 235) rfl (w.heap.size + 1) (tokCells kind tx at_) rfl rfl 27 zTok hT.res (info_tok _ rfl) rfl (tok_cells _ _ _) ?_))
              refine bodyPost_ret (v := .tuple #[.agg (tokCells kind tx at_), .nilIface]) ?_ rfl ?_
              · exact results_row_tmp rfl _ _ (w.heap.size + 1) 27 (tokCells kind tx at_) (0, 0) _ _ rfl rfl (setRow_heap _ _ _ _ _ _ (by exact hT.res)) Tryz.underlying27 rfl (info_tok _ rfl)
              · rw [HN.out, ← HTX.out]
                exact (hT.drewN _).ret hvl hbs _ _
  · have g0 : decide (fin < s.size) = false := decide_eq_false hf
    rw [g0] at near_yes near_no
    have HN := near_no (by simp)
    clear near_yes near_no
    go_wp2_with fail
    go_quiet (fail)
    go_wp2_with (first
      | (refine wpList_load_row rfl 27 (.tmp 7) rfl (w.heap.size + 3) rfl 27 #[.int .i64 kind, .string tx, .int .i64 at_] (0, 0) _ hT.tok Tryz.underlying27 rfl (info_tok _ rfl) ?_)
      | (refine wpList_store_row rfl 27 (.tmp 2) (.tmp 235) rfl (w.heap.size + 1) (tokCells kind tx at_) rfl rfl 27 zTok hT.res (info_tok _ rfl) rfl (tok_cells _ _ _) ?_))
    refine bodyPost_ret (v := .tuple #[.agg (tokCells kind tx at_), .nilIface]) ?_ rfl ?_
    · exact results_row_tmp rfl _ _ (w.heap.size + 1) 27 (tokCells kind tx at_) (0, 0) _ _ rfl rfl (setRow_heap _ _ _ _ _ _ (by exact hT.res)) Tryz.underlying27 rfl (info_tok _ rfl)
    · rw [HN.out, ← HTX.out]
      exact (hT.drewN _).ret hvl hbs _ _

end Go.Proofs.YtmapaagdaojpaaaGreatDoor
