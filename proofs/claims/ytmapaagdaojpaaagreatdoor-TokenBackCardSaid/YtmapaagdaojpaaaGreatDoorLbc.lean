/- The statement TokenBack of the given program holds: of every list of tokens and every list of bytes the call returns true, and both read as before; its card ties the listed variables to the program's text. No condition. -/
import Derived.Test.YtmapaagdaojpaaaGreatDoorCaw
import Derived.Test.YtmapaagdaojpaaaGreatDoorLb
import Derived.Test.YtmapaagdaojpaaaGreatDoorOt
namespace Go.Proofs.YtmapaagdaojpaaaGreatDoor
open Go.ChangeShapes Go.WideShapes Go.ChangeAt Go.RowKit Go.ChangeMaps

set_option maxRecDepth 100000 in
theorem back_lifted (os : Os) (started : os.Started) (H : Type) (enc : TypeId × Value → H) :
    ReturnsInHanded {} Tryz.checked os 4 .any (fun w args => (Rows.tokenBackSpec.pre enc Tryz.prog Tryz.f4 [] false w args ∧ laidMetH Tryz.prog Rows.tokenBackRow.laid w) ∧ sizedMet enc Tryz.prog Tryz.f4 (OpenSpec.ofChange Rows.tokenBackSpec) false w args)
      (Rows.tokenBackSpec.post enc Tryz.prog Tryz.f4 false true false false) := by
  refine returns_laid (C := Tryz.checked) (X := fun w _ => laidMetH Tryz.prog rowLaid w) (fun _ _ _ hh h => h.of_heap hh) own_none started (by kernel_rfl) Tryz.func4
    (ChangeSpec.witness_shaped (enc := enc) (C := Tryz.checked) (os := os) (X := fun w _ => laidMetH Tryz.prog rowLaid w) false (laidWorld os) #[.slice none 0 0, .slice none 0 0] 8 (laidWorld_os _) (World.shaped_of_ZipB (by kernel_rfl) (by kernel_rfl)) (by kernel_rfl) (by kernel_rfl) (by kernel_rfl) (laidWorld_met os _)) ?_
  intro W base args ds gs before hval0 hW hL hsh
  have hval : ∀ (j : Nat) t v, Tryz.f4.params[j]? = some t → args[j]? = some v → Value.okWide Tryz.prog W .any base t v := hval0
  have hW' := hW
  obtain ⟨p, q, hA0, hV0, rfl, _, _⟩ := hW
  have hA : DataW.TrodAll enc Tryz.prog W 0 (fun _ => true) true Tryz.f4.params.toList args.toList ds p := hA0
  rw [Tryz.params4] at hA hval
  obtain ⟨v0, v1, d0, d1, p0, p1, rfl, rfl, rfl, h0, h1⟩ := trodAll_two hA
  obtain ⟨rfl, rfl⟩ := trodVars_none hV0
  obtain ⟨l, ao, cap, rfl, hrow⟩ := tokens_of (hval 0 22 v0 rfl rfl) h0
  obtain ⟨gs, go, cap2, rfl, hgr⟩ := bytes_of (hval 1 37 v1 rfl rfl) h1
  obtain ⟨mx, hmx⟩ := Tryz.laysM143.s1_3 W hsh
  refine (TokenBack_any l ao cap gs go cap2 mx W hrow hgr (awake_at hL hsh) hmx (err_of_laid hL)).mono fun e W' ⟨he, hb⟩ => ?_
  subst he
  refine ⟨_, rfl, _, _, _, [], p0 ++ p1, [], hW', ?_, ?_, ?_, hb.frame _, fun h => by cases h⟩
  · exact trodAll_mk1 (shut_bool Tryz.underlying4 true)
  · exact trodAll_mk2 (stays_of (by kernel_rfl) (of_decide_eq_true (by kernel_rfl)) h0 (fun x hx => hW'.lt x (by simp [hx])) hb) (stays_of (by kernel_rfl) (of_decide_eq_true (by kernel_rfl)) h1 (fun x hx => hW'.lt x (by simp [hx])) hb)
  · rfl
theorem back_holds : Rows.TokenBackSaid :=
  OpenClaim.holds_of_wide 4 Tryz.f4 rfl rfl rfl rfl rfl rfl rfl ⟨rfl, rfl, rfl, rfl, rfl⟩ rfl rfl rfl rfl rfl (by kernel_rfl) Tryz.func4 (by kernel_rfl)
    (of_decide_eq_true (by kernel_rfl)) (by unfold Func.isWrapper; first | (rw [if_pos (by decide +kernel)]; kernel_rfl) | (rw [if_neg (by decide +kernel)]; exact ⟨rfl, rfl⟩))
    (fun os started H enc _ => back_lifted os started H enc)
theorem back_card : Rows.TokenBackCardSaid :=
  Claim7.holds_tied_plain_at .later [] [.data, .handle, .pinned] true (true, "541bede7a380c40a752eb2b43a5dbce0e68dfbe714098378bfa75dd0bf82d1a9") true back_holds (fun _ h => by cases h) (by kernel_rfl) (fun _ h => by cases h) tokenBack_row_tie rfl ⟨rfl, rfl⟩ (by kernel_rfl) rfl
    (fun f fn hf hfn => by
      obtain rfl : f = 4 := Option.some.inj ((show Tryz.prog.funcNamed "chiasmus/chiasmuslaw02.TokenBack" = some 4 by kernel_rfl).symm.trans hf) |>.symm
      obtain rfl : fn = Tryz.f4 := (Option.some.inj (Tryz.func4.symm.trans hfn)).symm
      exact ⟨by kernel_rfl, fun j t ht => by
        rw [Tryz.params4] at ht
        have hm : t ∈ [22, 37] := by simpa using Array.mem_of_getElem? ht
        have hall : ([22, 37].all fun u => !Tryz.prog.wantsStandIn u) = true := by kernel_rfl
        exact (show Tryz.prog.wantsStandIn t = false by simpa using List.all_eq_true.1 hall t hm)⟩)
    (by kernel_rfl)
#print axioms back_card
end Go.Proofs.YtmapaagdaojpaaaGreatDoor
