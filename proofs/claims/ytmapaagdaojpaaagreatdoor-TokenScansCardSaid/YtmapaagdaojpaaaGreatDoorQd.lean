/- token.quoted: a text between marks. -/
import Derived.Test.YtmapaagdaojpaaaGreatDoorWx
import Derived.Test.YtmapaagdaojpaaaGreatDoorQx
import Derived.Test.YtmapaagdaojpaaaGreatDoorEsc
import Derived.Test.YtmapaagdaojpaaaGreatDoorStp
import Derived.Lib.UnsafeStr
import Derived.Lib.BufferRead
namespace Go.Proofs.YtmapaagdaojpaaaGreatDoor
open Go.RowKit

theorem info_b8 : (Tryz.prog.info? 5).map (fun i => (i.zero, i.size, i.bytes)) = some (some (.int .u8 0), 1, 1) := by kernel_rfl
theorem zero_b8 (w : World) : (zeroValue 5).run Tryz.prog w = .ok (.int .u8 0) w := by kernel_rfl
/-- The worlds of quoted's first loop: block n0 the map back, n0 + 1 the escapes, n0 + 2 the iterator. -/
structure QmW (w : World) (mk : Int) (vis : List Nat) (wr : World) : Prop where
  below : Below w.heap.size w wr
  size : wr.heap.size = w.heap.size + 3
  bk : wr.heap[w.heap.size]? = some (mapObj (swapAt (escs mk) vis))
  es : wr.heap[w.heap.size + 1]? = some (mapObj (escs mk))
  it : wr.heap[w.heap.size + 2]? = some (iterObj (w.heap.size + 1) (escs mk).length vis)
/-- What is still to come. -/
def todo (n r : Nat) (wr : World) : Nat := ((List.range n).filter fun i => !(wr.iterSeen r).contains i).length
section
variable {w wr w1 w2 : World} {mk : Int} {vis : List Nat} {i : Nat} {p : Int × Int}
theorem QmW.seen (h : QmW w mk vis wr) : wr.iterSeen (w.heap.size + 2) = vis.toArray := by
  unfold World.iterSeen; rw [h.it]; rfl
theorem QmW.start (w : World) (mk : Int) : QmW w mk [] (((w.alloc (mapObj [])).alloc (mapObj (escs mk))).alloc (iterObj (w.heap.size + 1) (escs mk).length [])) := by
  have hb := ((below_alloc1 w (mapObj [])).alloc (by simp) (mapObj (escs mk))).alloc (by simp; omega) (iterObj (w.heap.size + 1) (escs mk).length [])
  refine ⟨hb, by simp, ?_, ?_, ?_⟩
  · exact (Below.heap_alloc _ _ _ (by simp; omega)).trans ((Below.heap_alloc _ _ _ (by simp)).trans (heap_alloc_new w _))
  · refine (Below.heap_alloc _ _ _ (by simp)).trans ?_
    have := heap_alloc_new (w.alloc (mapObj [])) (mapObj (escs mk))
    simpa using this
  · have := heap_alloc_new ((w.alloc (mapObj [])).alloc (mapObj (escs mk))) (iterObj (w.heap.size + 1) (escs mk).length [])
    simpa using this
theorem QmW.step (h : QmW w mk vis wr) (k1 : Keep (fun k => k = w.heap.size + 2) wr w1) (s1 : w1.heap.size = wr.heap.size) (i1 : w1.heap[w.heap.size + 2]? = some (iterObj (w.heap.size + 1) (escs mk).length (vis ++ [i])))
    (k2 : Keep (fun k => k = w.heap.size) w1 w2) (s2 : w2.heap.size = w1.heap.size) (b2 : w2.heap[w.heap.size]? = some (mapObj (swapAt (escs mk) vis ++ [(p.2, p.1)]))) (hp : (escs mk)[i]? = some p) : QmW w mk (vis ++ [i]) w2 := by
  have hs := h.size
  refine ⟨(h.below.trans (k1.below (by omega) (fun k hk e => by omega))).trans (k2.below (by omega) (fun k hk e => by omega)), by omega, by rw [b2, swap_snoc hp], ?_, ?_⟩
  · exact (k2.block _ (by omega) (by omega)).trans ((k1.block _ (by omega) (by omega)).trans h.es)
  · exact (k2.block _ (by omega) (by omega)).trans i1
theorem QmW.less (h : QmW w mk vis wr) (h2 : QmW w mk (vis ++ [i]) w2) (hi : i < (escs mk).length) (hv : i ∉ vis) : todo (escs mk).length (w.heap.size + 2) w2 < todo (escs mk).length (w.heap.size + 2) wr := by
  unfold todo
  rw [h.seen, h2.seen]
  refine filter_lt _ _ (fun x hx => ?_) i ?_ ?_ _ (List.mem_range.2 hi)
  · simp only [Bool.not_eq_true', List.contains_toArray, List.contains_eq_mem, List.mem_append, decide_eq_false_iff_not] at hx ⊢
    exact fun q => hx (.inl q)
  · simpa using hv
  · simp
end
theorem escs_nodup (m : UInt8) (hm : m = 39 ∨ m = 34) : ((escs m.toNat).map (·.2)).Nodup := by
  rcases hm with rfl | rfl <;> decide
theorem back39 : ∀ i : Fin 256, byteFind (i.val : Int) ((escs 39).map fun p => (p.2, p.1)) = (backF 39 (UInt8.ofNat i.val)).map fun e => (e.toNat : Int) := by decide +kernel
theorem back34 : ∀ i : Fin 256, byteFind (i.val : Int) ((escs 34).map fun p => (p.2, p.1)) = (backF 34 (UInt8.ofNat i.val)).map fun e => (e.toNat : Int) := by decide +kernel
theorem back_find {m : UInt8} (hm : m = 39 ∨ m = 34) {vis : List Nat} (hall : ∀ i, i < (escs m.toNat).length → i ∈ vis) (b : UInt8) : byteFind (b.toNat : Int) (swapAt (escs m.toNat) vis) = (backF m b).map fun e => (e.toNat : Int) := by
  rw [swap_all (escs_nodup m hm) hall]
  rcases hm with rfl | rfl
  · have := back39 ⟨b.toNat, b.toNat_lt⟩
    dsimp only at this
    rwa [UInt8.ofNat_toNat] at this
  · have := back34 ⟨b.toNat, b.toNat_lt⟩
    dsimp only at this
    rwa [UInt8.ofNat_toNat] at this

/-- The worlds of quoted's second loop: block n0 the map back, block o the bytes, out owned. -/
structure QdW (w : World) (o : Nat) (bk : List (Int × Int)) (s : ByteArray) (out : List UInt8) (vv : Value) (wr : World) : Prop where
  below : Below w.heap.size w wr
  mp : wr.heap[w.heap.size]? = some (mapObj bk)
  row : OutAt o (bu s) s.size wr
  ob : o < wr.heap.size
  own : wr.ownsRow (w.heap.size + 1) 5 1 vv out.length (Lib.byteCells out)
  far : vv.ownBlock ≠ some o
section
variable {w wr w1 : World} {o : Nat} {bk : List (Int × Int)} {s : ByteArray} {out : List UInt8} {vv : Value}
theorem OutAt.keep {o n : Nat} {f : Nat → UInt8} {W W' : World} {S : Nat → Prop} (h : OutAt o f n W) (hk : Keep S W W') (ho : o < W.heap.size) (hS : ¬ S o) : OutAt o f n W' :=
  ⟨fun x hx => (hk.cell (p := ⟨o, x, none⟩) ho hS).trans (h.cell x hx), fun x hx => (World.frozen?_of_block (w := W) (hk.block o ho hS)).trans (h.free x hx)⟩
theorem QdW.drewN (h : QdW w o bk s out vv wr) (k : Nat) : QdW w o bk s out vv (wr.drewN k) := ⟨below_drewN h.below k, h.mp, ⟨h.row.cell, h.row.free⟩, h.ob, h.own, h.far⟩
theorem QdW.gt (h : QdW w o bk s out vv wr) : w.heap.size < wr.heap.size := by obtain ⟨q, _⟩ := Array.getElem?_eq_some_iff.1 h.mp; exact q
theorem QdW.push {obj : Obj} {gg cap n : Nat} {cs : List Value} (h : QdW w o bk s out vv wr) (news : List UInt8) (hcs : cs = Lib.byteCells out ++ Lib.byteCells news) (hn : n = (out ++ news).length)
    (h1 : w1.ownsRow (w.heap.size + 1) 5 1 (.slice (some ⟨gg, 0, none⟩) n cap) n cs) (hg : (wr.alloc obj).grownBy w1 vv.ownBlock)
    (hat : vv.ownBlock = some gg ∨ gg = (wr.alloc obj).heap.size) : QdW w o bk s (out ++ news) (.slice (some ⟨gg, 0, none⟩) n cap) w1 := by
  subst hcs hn
  have hgt := h.gt
  have hob := h.ob
  have hK : Keep (fun k => vv.ownBlock = some k) wr w1 := Keep.trans (Keep.of_alloc (S := fun k => vv.ownBlock = some k) wr obj) (Keep.of_grown hg) (fun _ _ q => q)
  have hown : ∀ k, vv.ownBlock = some k → w.heap.size + 1 ≤ k := fun k q => (h.own.lt k q).1
  refine ⟨h.below.trans (hK.below h.below.size (fun k hk q => by have := hown k q; omega)), (hK.block _ hgt (fun q => by have := hown _ q; omega)).trans h.mp, h.row.keep hK h.ob h.far, ?_, ?_, ?_⟩
  · exact Nat.lt_of_lt_of_le h.ob hK.size
  · rw [show Lib.byteCells (out ++ news) = Lib.byteCells out ++ Lib.byteCells news by simp [Lib.byteCells]]
    exact h1
  · intro q
    simp only [Value.ownBlock, Option.some.injEq] at q
    subst q
    rcases hat with q | q
    · exact h.far q
    · simp at q; omega
theorem QdW.slice (h : QdW w o bk s out vv wr) : ∃ A cap, vv = .slice A out.length cap := by
  rcases h.own.2 with ⟨e, h0⟩ | ⟨g, cap, cur, e, _⟩
  · exact ⟨none, 0, by rw [e, h0]⟩
  · exact ⟨_, _, e⟩
theorem QdW.text (h : QdW w o bk s out vv wr) : (convert 37 9 vv).run Tryz.prog wr = .ok (.string ⟨out.toArray⟩) wr := by
  rcases h.own.2 with ⟨e, h0⟩ | ⟨g, cap, cur, e, _⟩
  · rw [e, List.length_eq_zero_iff.1 h0]
    exact Lib.run_convert_nil_bytes wr 37 9 5 0 Tryz.underlying37 Tryz.underlying5 Tryz.underlying9
  · have hc := h.own.cells (g := g) (by rw [e]; rfl)
    rw [e]
    exact run_convert_bytes_back wr 37 9 5 ⟨g, 0, none⟩ cap out Tryz.underlying37 Tryz.underlying5 Tryz.underlying9 (fun j hj => hc j _ (by simp [Lib.byteCells, hj]))
end
theorem and15 : ∀ i : Fin 256, bits BinOp.and IntKind.u8 (i.val : Int) 15 = (i.val : Int) % 16 := by decide +kernel
def hexB : ByteArray := ⟨#[48, 49, 50, 51, 52, 53, 54, 55, 56, 57, 97, 98, 99, 100, 101, 102]⟩
theorem hexB_at : ∀ n : Fin 16, hexB[n.val]'(Nat.lt_of_lt_of_le n.isLt (by decide)) = hexd n.val := by decide +kernel
theorem hexB_is (x : Int) (n : Nat) (hx : x = n) (hn : n < 16) (h : x.toNat < hexB.size) : hexB[x.toNat]'h = hexd n := by
  subst hx
  exact hexB_at ⟨n, hn⟩
theorem QOut.put {m : UInt8} {s : ByteArray} {k : Nat} {out l : List UInt8} (h : QOut m s k ⟨out.toArray⟩) (hk : k < s.size) (hl : l = escB m (bu s k)) : QOut m s (k + 1) ⟨(out ++ l).toArray⟩ := by
  have := h.step (x := ⟨l.toArray⟩) hk hl
  unfold QOut at this ⊢
  rw [← this, ByteArray.data_append]
  simp
set_option maxHeartbeats 4000000 in
set_option maxRecDepth 100000 in
theorem quoted_any (s : ByteArray) (m : UInt8) (hm : m = 39 ∨ m = 34) (w : World) (hs : s.size ≤ 1000000) :
    Calls Tryz.prog 32 #[.string s, .int .u8 m.toNat] w fun e w' => e = .returned (.string (quotedB m s)) ∧ Below w.heap.size w w' := by
  have hE := fun w => escapes_any (m.toNat : Int) w
  have HM := Lib.hid hm
  have hnd := escs_nodup m hm
  have HST := Lib.hid (QmW.start w m.toNat)
  clear hm
  generalize hmk : (m.toNat : Int) = mk at hE hnd HST
  have HMK := Lib.hid hmk
  clear hmk
  have hmm := @run_makeMap Tryz.prog
  go_enter Tryz.func32, Tryz.ntmps32
  go_wp2_with fail
  refine (hE _).mono ?_
  rintro e w' ⟨rfl, rfl⟩
  clear hE
  have hes : ((w.alloc (mapObj [])).alloc (mapObj (escs mk))).heap[w.heap.size + 1]? = some (mapObj (escs mk)) := by
    have := heap_alloc_new (w.alloc (mapObj [])) (mapObj (escs mk))
    simpa using this
  go_wp2_with (at_range; refine wpList_range_bytes rfl (.tmp 15) 104 rfl 5 5 Tryz.underlying104 (w.heap.size + 1) (escs mk) hes rfl ?_)
  go_frame
  simp only [World.size_alloc]
  go_loopw [] (fun wr => ∃ vis, Hid (QmW w mk vis wr)) (fun wr => todo (escs mk).length (w.heap.size + 2) wr)
  case atStart => exact ⟨[], HST⟩
  case round =>
    obtain ⟨vis, HQ⟩ := hrel
    have HSZ := Lib.hid HQ.out.size
    clear HST hes hmm
    go_wp2_with (at_next; go_loud (refine wpList_next_bytes (by rfl) (.tmp 16) (by rfl) (w.heap.size + 2) (w.heap.size + 1) (escs mk) vis (by rfl) HQ.out.it HQ.out.es (by omega) ?_ ?_))
    · intro hall
      obtain ⟨wo, rfl⟩ : ∃ wo : World, wo = wr := ⟨_, rfl⟩
      have HB : Hid (∀ b : UInt8, byteFind (b.toNat : Int) (swapAt (escs mk) vis) = (backF m b).map fun e => (e.toNat : Int)) := Lib.hid fun b => by
        rw [← HMK.out] at hall ⊢
        exact back_find HM.out hall b
      have hbk := HQ.out.bk
      have HW := Lib.hid HQ.out.below
      generalize swapAt (escs mk) vis = bk at HB hbk
      clear HQ hall hnd
      obtain ⟨i0, hi0, hz0, hz1, hz2⟩ := info_parts info_b8
      obtain ⟨cap, W, hcv, hO, hbW, hzW⟩ := open_bytes s (wo.alloc (.cells #[.int .u8 mk] 5))
      have HO := Lib.hid hO
      have HBW := Lib.hid hbW
      clear hO hbW
      simp only [World.size_alloc] at hcv
      have hob : wo.heap.size + 1 < W.heap.size + 1 := by simp only [World.size_alloc] at hzW; omega
      have HQ0 : Hid (QdW w (wo.heap.size + 1) bk s [m] (.slice (some ⟨wo.heap.size, 0, none⟩) 1 1) W) := Lib.hid (by
        have hbs := HBW.out.size
        simp only [World.size_alloc] at hbs hzW
        refine ⟨(HW.out.trans ((below_alloc1 wo _).mono HW.out.size)).trans (HBW.out.mono (by have := HSZ.out; simp; omega)), ?_, ?_, by omega, ?_, ?_⟩
        · exact (HBW.out.block _ (by have := HSZ.out; simp; omega)).trans ((Below.heap_alloc _ _ _ (by have := HSZ.out; omega)).trans hbk)
        · have := HO.out; simpa using this
        · refine ⟨by simp [Lib.byteCells], .inr ⟨wo.heap.size, 1, #[.int .u8 mk], rfl, by have := HSZ.out; omega, ?_, ?_⟩⟩
          · exact (HBW.out.block _ (by simp)).trans (heap_alloc_new wo _)
          · rw [← HMK.out]; simp [Lib.byteCells, maxLen]
        · simp [Value.ownBlock])
      clear hob
      have HT0 : Hid (QOut m s 0 ⟨[m].toArray⟩) := Lib.hid (by unfold QOut; simp)
      go_wp2
      go_loopw [30, 8] (fun i v8 w2 => ∃ (k : Nat) (out : List UInt8) (vv : Value), k ≤ s.size ∧ i = .int .i64 k ∧ vv = v8 ∧ Hid (QdW w (wo.heap.size + 1) bk s out vv w2) ∧ Hid (QOut m s k ⟨out.toArray⟩)) (fun i _ _ => s.size - (intOf i).toNat)
      case atStart => exact ⟨0, [m], _, Nat.zero_le _, rfl, rfl, HQ0, HT0⟩
      case round =>
        obtain ⟨k, out, vv, hk, rfl, rfl, HQ, HT⟩ := hrel
        have hgt := HQ.out.gt
        have hln := HT.out.len
        have hln2 : (⟨out.toArray⟩ : ByteArray).size = out.length := List.size_toArray ..
        rw [hln2] at hln
        clear hln2
        have hmp := HQ.out.mp
        have hown := HQ.out.own
        by_cases hkl : k < s.size
        · have l1 : decide ((k : Int) < (s.size : Int)) = true := decide_eq_true (by omega)
          have wk : IntKind.i64.wrap ((k : Int) + 1) = k + 1 := IntWalk.i64_in _ (by omega)
          have hc := HQ.out.row.cell k hkl
          have hbf := HB.out (bu s k)
          cases hb : backF m (bu s k) with
          | some e =>
            have HE : Hid ([92, e] = escB m (bu s k)) := Lib.hid (by unfold escB; rw [hb])
            rw [hb, Option.map_some] at hbf
            clear hb
            go_wp2_with (first
              | (refine wpList_lookup_bytes (by rfl) (.tmp 35) (.tmp 36) 104 (by rfl) 5 5 Tryz.underlying104 Tryz.underlying5 zero_b8 w.heap.size bk hmp (bu s k).toNat (by rfl) (by rfl) ?_)
              | (at_builtin; go_loud (refine wpList_append_lies _ (by rfl) _ _ _ (by rfl) (w.heap.size + 1) 5 i0 _ 1 1 Tryz.underlying37 hi0 hz0 hz1 hz2 (by rfl) (by omega) _ out.length (Lib.byteCells out) (by rfl) (hown.alloc _) ⟨wr.heap.size, 0, none⟩ 2 2 [.int .u8 92, .int .u8 e.toNat] (by rfl) (by rfl) (World.news_of_block (cs := #[.int .u8 92, .int .u8 e.toNat]) (t := 5) (fr := (0, 0)) (heap_alloc_new _ _)) (by simp [Value.oneCell']) (by omega) (by unfold maxLen; omega) (by omega) (by simp; omega) _ (by rfl) ?_); intro gg cap2 w3 hown1 hgrow hat hlt9; have hP := Lib.hid (HQ.out.push [92, e] rfl (by simp) hown1 hgrow hat); clear hgrow hown1 hat hlt9))
            go_roundw
            case rel => exact ⟨k + 1, _, _, by omega, by go_num, rfl, hP, Lib.hid (HT.out.put hkl HE.out)⟩
            case measure => simp [intOf]; omega
          | none =>
            rw [hb, Option.map_none] at hbf
            by_cases hr : (bu s k).toNat < 32 ∨ 126 < (bu s k).toNat
            · have HE : Hid ([92, 120, hexd ((bu s k).toNat / 16), hexd ((bu s k).toNat % 16)] = escB m (bu s k)) := Lib.hid (by
                unfold escB; rw [hb]; show _ = if _ then _ else _; rw [if_pos hr])
              clear hb
              have hblt := (bu s k).toNat_lt
              have hi1 : 0 ≤ ((bu s k).toNat : Int) / 16 ∧ ((bu s k).toNat : Int) / 16 < 16 := by omega
              have hi2 : 0 ≤ ((bu s k).toNat : Int) % 16 ∧ ((bu s k).toNat : Int) % 16 < 16 := by omega
              have hv1 : ∀ h, (⟨#[48, 49, 50, 51, 52, 53, 54, 55, 56, 57, 97, 98, 99, 100, 101, 102]⟩ : ByteArray)[(((bu s k).toNat : Int) / 16).toNat]'h = hexd ((bu s k).toNat / 16) := fun h => hexB_is _ _ (by omega) (by omega) h
              have hv2 : ∀ h, (⟨#[48, 49, 50, 51, 52, 53, 54, 55, 56, 57, 97, 98, 99, 100, 101, 102]⟩ : ByteArray)[(((bu s k).toNat : Int) % 16).toNat]'h = hexd ((bu s k).toNat % 16) := fun h => hexB_is _ _ (by omega) (by omega) h
              have hv3 : bits BinOp.and IntKind.u8 ((bu s k).toNat : Int) 15 = ((bu s k).toNat : Int) % 16 := and15 ⟨(bu s k).toNat, hblt⟩
              clear hblt
              have hr2 : (((bu s k).toNat : Int) < 32) ∨ (¬ ((bu s k).toNat : Int) < 32 ∧ (126 : Int) < (bu s k).toNat) := by omega
              clear hr
              rcases hr2 with hr2 | ⟨hr2, hr3⟩
              · have d1 : decide (((bu s k).toNat : Int) < 32) = true := decide_eq_true hr2
                clear hr2
                go_wp2_with (refine wpList_lookup_bytes (by rfl) (.tmp 35) (.tmp 36) 104 (by rfl) 5 5 Tryz.underlying104 Tryz.underlying5 zero_b8 w.heap.size bk hmp (bu s k).toNat (by rfl) (by rfl) ?_)
                go_region_law (refine step_append_lies _ (by rfl) _ _ _ (by rfl) (w.heap.size + 1) 5 i0 _ 1 1 Tryz.underlying37 hi0 hz0 hz1 hz2 (by rfl) (by omega) _ out.length (Lib.byteCells out) (by rfl) (hown.alloc _) ⟨wr.heap.size, 0, none⟩ 4 4 [.int .u8 92, .int .u8 120, .int .u8 (hexd ((bu s k).toNat / 16)).toNat, .int .u8 (hexd ((bu s k).toNat % 16)).toNat] (by rfl) (by rfl) (World.news_of_block (cs := #[.int .u8 92, .int .u8 120, .int .u8 (hexd ((bu s k).toNat / 16)).toNat, .int .u8 (hexd ((bu s k).toNat % 16)).toNat]) (t := 5) (fr := (0, 0)) (heap_alloc_new _ _)) (by simp [Value.oneCell']) (by omega) (by unfold maxLen; omega) (by omega) (by simp; omega) _ (by rfl) ?_; intro gg cap2 w3 hown1 hgrow hat hlt9; have hP := Lib.hid ((HQ.out.drewN 1).push [92, 120, hexd ((bu s k).toNat / 16), hexd ((bu s k).toNat % 16)] rfl (by simp) hown1 hgrow hat); clear hgrow hown1 hat hlt9)
                all_goals go_wp2
                all_goals go_roundw
                all_goals first
                  | exact ⟨k + 1, _, _, by omega, by go_num, rfl, hP, Lib.hid (HT.out.put hkl HE.out)⟩
                  | (simp [intOf]; omega)
              · have d1 : decide (((bu s k).toNat : Int) < 32) = false := decide_eq_false hr2
                have d2 : decide ((126 : Int) < (bu s k).toNat) = true := decide_eq_true hr3
                clear hr2 hr3
                go_wp2_with (refine wpList_lookup_bytes (by rfl) (.tmp 35) (.tmp 36) 104 (by rfl) 5 5 Tryz.underlying104 Tryz.underlying5 zero_b8 w.heap.size bk hmp (bu s k).toNat (by rfl) (by rfl) ?_)
                go_region_law (refine step_append_lies _ (by rfl) _ _ _ (by rfl) (w.heap.size + 1) 5 i0 _ 1 1 Tryz.underlying37 hi0 hz0 hz1 hz2 (by rfl) (by omega) _ out.length (Lib.byteCells out) (by rfl) (hown.alloc _) ⟨wr.heap.size, 0, none⟩ 4 4 [.int .u8 92, .int .u8 120, .int .u8 (hexd ((bu s k).toNat / 16)).toNat, .int .u8 (hexd ((bu s k).toNat % 16)).toNat] (by rfl) (by rfl) (World.news_of_block (cs := #[.int .u8 92, .int .u8 120, .int .u8 (hexd ((bu s k).toNat / 16)).toNat, .int .u8 (hexd ((bu s k).toNat % 16)).toNat]) (t := 5) (fr := (0, 0)) (heap_alloc_new _ _)) (by simp [Value.oneCell']) (by omega) (by unfold maxLen; omega) (by omega) (by simp; omega) _ (by rfl) ?_; intro gg cap2 w3 hown1 hgrow hat hlt9; have hP := Lib.hid ((HQ.out.drewN 1).push [92, 120, hexd ((bu s k).toNat / 16), hexd ((bu s k).toNat % 16)] rfl (by simp) hown1 hgrow hat); clear hgrow hown1 hat hlt9)
                all_goals go_wp2
                all_goals go_roundw
                all_goals first
                  | exact ⟨k + 1, _, _, by omega, by go_num, rfl, hP, Lib.hid (HT.out.put hkl HE.out)⟩
                  | (simp [intOf]; omega)
            · have HE : Hid ([bu s k] = escB m (bu s k)) := Lib.hid (by
                unfold escB; rw [hb]; show _ = if _ then _ else _; rw [if_neg hr])
              clear hb
              have d1 : decide (((bu s k).toNat : Int) < 32) = false := decide_eq_false (by omega)
              have d2 : decide ((126 : Int) < (bu s k).toNat) = false := decide_eq_false (by omega)
              clear hr
              go_wp2_with (first
                | (refine wpList_lookup_bytes (by rfl) (.tmp 35) (.tmp 36) 104 (by rfl) 5 5 Tryz.underlying104 Tryz.underlying5 zero_b8 w.heap.size bk hmp (bu s k).toNat (by rfl) (by rfl) ?_)
                | (at_builtin; refine wpList_append_lies _ (by rfl) _ _ _ (by rfl) (w.heap.size + 1) 5 i0 _ 1 1 Tryz.underlying37 hi0 hz0 hz1 hz2 (by rfl) (by omega) _ out.length (Lib.byteCells out) (by rfl) (hown.alloc _) ⟨wr.heap.size, 0, none⟩ 1 1 [.int .u8 (bu s k).toNat] (by rfl) (by rfl) (World.news_of_block (cs := #[.int .u8 (bu s k).toNat]) (t := 5) (fr := (0, 0)) (heap_alloc_new _ _)) (by simp [Value.oneCell']) (by omega) (by unfold maxLen; omega) (by omega) (by simp; omega) _ (by rfl) ?_; intro gg cap2 w3 hown1 hgrow hat hlt9; have hP := Lib.hid (HQ.out.push [bu s k] rfl (by simp) hown1 hgrow hat); clear hgrow hown1 hat hlt9))
              go_roundw
              case rel => exact ⟨k + 1, _, _, by omega, by go_num, rfl, hP, Lib.hid (HT.out.put hkl HE.out)⟩
              case measure => simp [intOf]; omega
        · have l1 : decide ((k : Int) < (s.size : Int)) = false := decide_eq_false (by omega)
          obtain rfl : k = s.size := by omega
          go_wp2_with (at_builtin; refine wpList_append_lies _ (by rfl) _ _ _ (by rfl) (w.heap.size + 1) 5 i0 _ 1 1 Tryz.underlying37 hi0 hz0 hz1 hz2 (by rfl) (by omega) _ out.length (Lib.byteCells out) (by rfl) (hown.alloc _) ⟨wr.heap.size, 0, none⟩ 1 1 [.int .u8 mk] (by rfl) (by rfl) (World.news_of_block (cs := #[.int .u8 mk]) (t := 5) (fr := (0, 0)) (heap_alloc_new _ _)) (by simp [Value.oneCell']) (by omega) (by unfold maxLen; omega) (by omega) (by simp; omega) _ (by rfl) ?_; intro gg cap2 w3 hown1 hgrow hat hlt9; have hP := Lib.hid (HQ.out.push [m] (by rw [← HMK.out]; rfl) (by simp) hown1 hgrow hat); have htx := hP.out.text; clear hgrow hown1 hat hlt9)
          go_ret
          exact ⟨by rw [← HT.out.done]; rfl, hP.out.below⟩
    · intro i p1 p2 w1 hp hv k1 s1 i1 hen
      have hbk1 : w1.heap[w.heap.size]? = some (mapObj (swapAt (escs mk) vis)) := (k1.block _ (by have := HSZ.out; omega) (by omega)).trans HQ.out.bk
      have hnew := swap_new hnd hp hv
      go_wp2_with (refine wpList_update_bytes (by rfl) _ _ _ 104 (by rfl) 5 5 Tryz.underlying104 Tryz.underlying5 w.heap.size (swapAt (escs mk) vis) hbk1 p2 p1 (by rfl) (by rfl) (by rfl) hnew ?_; intro w2 k2 s2 b2)
      go_roundw
      case rel => exact ⟨_, Lib.hid (HQ.out.step k1 s1 i1 k2 s2 b2 hp)⟩
      case measure => exact HQ.out.less (HQ.out.step k1 s1 i1 k2 s2 b2 hp) (List.getElem?_eq_some_iff.1 hp).1 hv
end Go.Proofs.YtmapaagdaojpaaaGreatDoor
