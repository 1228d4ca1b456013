/- The statement SyntaxCanonical of the given program holds: of every text the call returns true, and the text reads as before; its card ties the listed variables to the program's text. No condition. -/
import Derived.Test.YteamjdmhdfjopaaGreatDoorC13
import Derived.Test.YteamjdmhdfjopaaGreatDoorTie
import Derived.Test.YteamjdmhdfjopaaGreatDoorCards
import Derived.Test.YteamjdmhdfjopaaGreatDoorC44
import Derived.Test.YteamjdmhdfjopaaGreatDoorC48
namespace Go.Proofs.YteamjdmhdfjopaaGreatDoor
open Go.RowKit
set_option maxRecDepth 100000
set_option maxHeartbeats 8000000
set_option linter.unusedVariables false
set_option linter.unusedSimpArgs false
set_option linter.unnecessarySimpa false
section
open Go.ChangeShapes Go.WideShapes Go.ChangeAt Go.RowKit Go.ChangeMaps
theorem YiO (os:Os)(started:os.Started)(H:Type)(enc:TypeId×Value->H):
 ReturnsInHanded {} Tryz.checked os 8 .any (fun w args=>(Rows.syntaxCanonicalSpec.pre enc Tryz.prog Tryz.f8 [] false w args/\laidMetH Tryz.prog Rows.syntaxCanonicalRow.laid w)/\sizedMet enc Tryz.prog Tryz.f8 (OpenSpec.ofChange Rows.syntaxCanonicalSpec) false w args)
  (Rows.syntaxCanonicalSpec.post enc Tryz.prog Tryz.f8 false true false false):=by
 refine Yh4 (C:=Tryz.checked) (X:=fun w _=>laidMetH Tryz.prog YdH w) (fun _ _ _ hh h=>h.of_heap hh) YoR started (by kernel_rfl) Tryz.func8
  (ChangeSpec.witness_shaped (enc:=enc) (C:=Tryz.checked) (os:=os) (X:=fun w _=>laidMetH Tryz.prog YdH w) false (laidWorld os) #[.string ⟨#[]⟩] 8 (Yiq _) (World.shaped_of_ZipB (by kernel_rfl) (by kernel_rfl)) (by kernel_rfl) (by kernel_rfl) (by kernel_rfl) (laidWorld_met os _)) ?_
 intro W base args ds gs before hval0 hW hL hsh;have hval:∀(j:Nat) t v,Tryz.f8.params[j]? =some t->args[j]? =some v->Value.okWide Tryz.prog W .any base t v:=hval0;have hW':=hW;obtain⟨p,q,hA0,hV0,rfl,_,_⟩:=hW;have hA:DataW.TrodAll enc Tryz.prog W 0 (fun _=>true) true Tryz.f8.params.toList args.toList ds p:=hA0;rw[Tryz.params8] at hA hval;obtain⟨v0,d0,rfl,rfl,h0⟩:=trodAll_one hA;obtain⟨rfl,rfl⟩:=trodVars_none hV0;obtain⟨s,rfl,rfl,rfl,ws⟩:=open_string Tryz.underlying9 (hval 0 9 v0 rfl rfl) h0;simp only[List.append_nil] at hW';obtain⟨m,hm⟩:=Tryz.laysM143.s1_3 W hsh;refine(YiT s m W hm (Yfp hL) (Yn6 m W hm (Yfp hL))).mono fun e W' ⟨he,hb⟩=>?_;subst he;have e1:Rows.syntaxCanonicalSpec.fn H ([.lit (.string s.data.toList)]++[])={ results:=[.lit (.bool true)],args:=[.lit (.string s.data.toList)] }:=rfl;refine⟨_,rfl,_,_,_,[],[],[],hW',?_,?_,?_,hb.frame _,fun h=>by cases h⟩
 ·exact trodAll_mk1 (shut_bool Tryz.underlying4 true)
 ·exact trodAll_mk1 (shut_string Tryz.underlying9 ws)
 ·rfl
theorem YjE:Rows.SyntaxCanonicalSaid:=
 OpenClaim.holds_of_wide 8 Tryz.f8 rfl rfl rfl rfl rfl rfl rfl ⟨rfl,rfl,rfl,rfl,rfl⟩ rfl rfl rfl rfl rfl (by kernel_rfl) Tryz.func8 YjF
  (of_decide_eq_true (by kernel_rfl)) (by unfold Func.isWrapper; first | (rw[if_pos (by decide+kernel)]; kernel_rfl) | (rw[if_neg (by decide+kernel)]; exact⟨rfl,rfl⟩))
  (fun os started H enc _=>YiO os started H enc)
theorem canon_card:Rows.SyntaxCanonicalCardSaid:=
 Claim7.holds_tied_plain_at .later [] [.data,.handle,.pinned] true (true,"2293a2c8df3e78207f6feda815d413c7fb9c1beefb0e7a616ac9de779e2ae35a") true YjE (fun _ h=>by cases h) (by kernel_rfl) (fun _ h=>by cases h) syntaxCanonical_row_tie rfl ⟨rfl,rfl⟩ (by kernel_rfl) rfl
  (fun f fn hf hfn=>by
    obtain rfl:f=8:=Option.some.inj ((show Tryz.prog.funcNamed "chiasmus/chiasmuslaw03.SyntaxCanonical"=some 8 by kernel_rfl).symm.trans hf) |>.symm;obtain rfl:fn=Tryz.f8:=(Option.some.inj (Tryz.func8.symm.trans hfn)).symm;exact⟨by kernel_rfl,fun j t ht=>by
     rw[Tryz.params8] at ht;have hm:t∈[9]:=by simpa using Array.mem_of_getElem? ht
     have hall:([9].all fun u=>!Tryz.prog.wantsStandIn u)=true:=by kernel_rfl
     exact(show Tryz.prog.wantsStandIn t=false by simpa using List.all_eq_true.1 hall t hm)⟩)
  (by kernel_rfl)
#print axioms canon_card
end
end Go.Proofs.YteamjdmhdfjopaaGreatDoor
