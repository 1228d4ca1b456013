/- The statement SyntaxReads of the given program holds: of every text the call returns true, and the text reads as before; its card ties the listed variables to the program's text. No condition. -/
import Derived.Test.YteamjdmhdfjopaaGreatDoorM14
import Derived.Test.YteamjdmhdfjopaaGreatDoorTie
import Derived.Test.YteamjdmhdfjopaaGreatDoorCards
import Derived.Test.YteamjdmhdfjopaaGreatDoorM46
import Derived.Test.YteamjdmhdfjopaaGreatDoorM50
namespace Go.Proofs.YteamjdmhdfjopaaGreatDoor
open Go.RowKit
set_option maxRecDepth 100000
set_option maxHeartbeats 8000000
set_option linter.unusedVariables false
set_option linter.unusedSimpArgs false
set_option linter.unnecessarySimpa false
section
open Go.ChangeShapes Go.WideShapes Go.ChangeAt Go.RowKit Go.ChangeMaps
theorem Yhf (os:Os)(started:os.Started)(H:Type)(enc:TypeId×Value->H):
 ReturnsInHanded {} Tryz.checked os 3 .any (fun w args=>(Rows.syntaxReadsSpec.pre enc Tryz.prog Tryz.f3 [] false w args/\laidMetH Tryz.prog Rows.syntaxReadsRow.laid w)/\sizedMet enc Tryz.prog Tryz.f3 (OpenSpec.ofChange Rows.syntaxReadsSpec) false w args)
  (Rows.syntaxReadsSpec.post enc Tryz.prog Tryz.f3 false true false false):=by
 refine Yhe (C:=Tryz.checked) (X:=fun w _=>laidMetH Tryz.prog YdA w) (fun _ _ _ hh h=>h.of_heap hh) YmC started (by kernel_rfl) Tryz.func3
  (ChangeSpec.witness_shaped (enc:=enc) (C:=Tryz.checked) (os:=os) (X:=fun w _=>laidMetH Tryz.prog YdA w) false (laidWorld os) #[.string ⟨#[]⟩] 8 (Yhv _) (World.shaped_of_ZipB (by kernel_rfl) (by kernel_rfl)) (by kernel_rfl) (by kernel_rfl) (by kernel_rfl) (laidWorld_met os _)) ?_
 intro W base args ds gs before hval0 hW hL hsh;have hval:∀(j:Nat) t v,Tryz.f3.params[j]? =some t->args[j]? =some v->Value.okWide Tryz.prog W .any base t v:=hval0;have hW':=hW;obtain⟨p,q,hA0,hV0,rfl,_,_⟩:=hW;have hA:DataW.TrodAll enc Tryz.prog W 0 (fun _=>true) true Tryz.f3.params.toList args.toList ds p:=hA0;rw[Tryz.params3] at hA hval;obtain⟨v0,d0,rfl,rfl,h0⟩:=trodAll_one hA;obtain⟨rfl,rfl⟩:=trodVars_none hV0;obtain⟨s,rfl,rfl,rfl,ws⟩:=open_string Tryz.underlying9 (hval 0 9 v0 rfl rfl) h0;simp only[List.append_nil] at hW';obtain⟨m,hm⟩:=Tryz.laysM143.s1_3 W hsh;refine(Yfh s m W hm (Ye1 hL) (YlR m W hm (Ye1 hL))).mono fun e W' ⟨he,hb⟩=>?_;subst he;have e1:Rows.syntaxReadsSpec.fn H ([.lit (.string s.data.toList)]++[])={ results:=[.lit (.bool true)],args:=[.lit (.string s.data.toList)] }:=rfl;refine⟨_,rfl,_,_,_,[],[],[],hW',?_,?_,?_,hb.frame _,fun h=>by cases h⟩
 ·exact trodAll_mk1 (shut_bool Tryz.underlying4 true)
 ·exact trodAll_mk1 (shut_string Tryz.underlying9 ws)
 ·rfl
theorem YhX:Rows.SyntaxReadsSaid:=
 OpenClaim.holds_of_wide 3 Tryz.f3 rfl rfl rfl rfl rfl rfl rfl ⟨rfl,rfl,rfl,rfl,rfl⟩ rfl rfl rfl rfl rfl (by kernel_rfl) Tryz.func3 YhY
  (of_decide_eq_true (by kernel_rfl)) (by unfold Func.isWrapper; first | (rw[if_pos (by decide+kernel)]; kernel_rfl) | (rw[if_neg (by decide+kernel)]; exact⟨rfl,rfl⟩))
  (fun os started H enc _=>Yhf os started H enc)
theorem reads_card:Rows.SyntaxReadsCardSaid:=
 Claim7.holds_tied_plain_at .later [] [.data,.handle,.pinned] true (true,"2293a2c8df3e78207f6feda815d413c7fb9c1beefb0e7a616ac9de779e2ae35a") true YhX (fun _ h=>by cases h) (by kernel_rfl) (fun _ h=>by cases h) syntaxReads_row_tie rfl ⟨rfl,rfl⟩ (by kernel_rfl) rfl
  (fun f fn hf hfn=>by
    obtain rfl:f=3:=Option.some.inj ((show Tryz.prog.funcNamed "chiasmus/chiasmuslaw03.SyntaxReads"=some 3 by kernel_rfl).symm.trans hf) |>.symm;obtain rfl:fn=Tryz.f3:=(Option.some.inj (Tryz.func3.symm.trans hfn)).symm;exact⟨by kernel_rfl,fun j t ht=>by
     rw[Tryz.params3] at ht;have hm:t∈[9]:=by simpa using Array.mem_of_getElem? ht
     have hall:([9].all fun u=>!Tryz.prog.wantsStandIn u)=true:=by kernel_rfl
     exact(show Tryz.prog.wantsStandIn t=false by simpa using List.all_eq_true.1 hall t hm)⟩)
  (by kernel_rfl)
#print axioms reads_card
end
end Go.Proofs.YteamjdmhdfjopaaGreatDoor
