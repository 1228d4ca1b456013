/- A part of the proof; it holds the texts Rng Rnh (names and blanks shortened). -/
import Derived.Test.YteamjdmhdfjopaaGreatDoorC2
import Derived.RangeFuncNested
import Derived.RangeFuncCalls
namespace Go.Proofs.YteamjdmhdfjopaaGreatDoor
open Go.RowKit
set_option maxRecDepth 100000
set_option maxHeartbeats 8000000
set_option linter.unusedVariables false
set_option linter.unusedSimpArgs false
def Stab (B:Nat)(F:Nat->Prop)(I:World->Prop):Prop:=∀X Y,I X->Keep (fun k=>B<=k/\¬F k) X Y->I Y
structure Grow (F F':Nat->Prop)(X Y:World):Prop where
 keep:Keep F X Y
 sub:∀k,F' k->F k\/X.heap.size<=k
 lt:∀k,F' k->k<Y.heap.size
theorem Grow.trans {F F' F'':Nat->Prop}{X Y Z:World}(h:Grow F F' X Y)(k:Grow F' F'' Y Z):Grow F F'' X Z:=
 ⟨h.keep.trans k.keep (fun i hi q=>(h.sub i q).elim id (fun e=>by omega)),fun i q=>(k.sub i q).elim (fun e=>h.sub i e) (fun e=>.inr (Nat.le_trans h.keep.size e)),k.lt⟩
theorem Grow.refl {F:Nat->Prop}{X:World}(h:∀k,F k->k<X.heap.size):Grow F F X X:=⟨Keep.refl _ _,fun _ q=>.inl q,h⟩
theorem Grow.after {F F':Nat->Prop}{X Y Z:World}(h:Keep F X Y)(k:Grow F F' Y Z):Grow F F' X Z:=
 ⟨h.trans k.keep (fun _ _ q=>q),fun i q=>(k.sub i q).imp id (fun e=>Nat.le_trans h.size e),k.lt⟩
theorem Grow.then {F F' T:Nat->Prop}{X Y Z:World}(h:Grow F F' X Y)(k:Keep T Y Z)(hT:∀i,i<X.heap.size->T i->F i):Grow F F' X Z:=
 ⟨h.keep.trans k hT,h.sub,fun i q=>Nat.lt_of_lt_of_le (h.lt i q) k.size⟩
theorem Stab.keep {B:Nat}{F T:Nat->Prop}{I:World->Prop}(h:Stab B F I){X Y:World}(hX:I X)(k:Keep T X Y)(hT:∀i,i<X.heap.size->T i->B<=i/\¬F i):I Y:=h X Y hX (k.mono hT)
theorem Stab.alloc {B:Nat}{F:Nat->Prop}{I:World->Prop}(h:Stab B F I){X:World}(hX:I X)(o:Obj):I (X.alloc o):=h X _ hX (Keep.of_alloc X o)
theorem Jk (W:World)(l:Nat)(o:Obj):Keep (fun k=>k=l) W (W.putObj l o):=
 ⟨rfl,rfl,rfl,by simp[World.putObj],fun _ _ hk=>World.putObj_heap_other (fun e=>hk Zo)⟩
def SeqT {α:Type}(P:Program)(gf:Nat)(lb:Array Value)(encs:α->Array Value)(xs:List α)(F0:Nat->Prop)(w:World):Prop:=
 ∀(l:Nat) (J:List α->(Nat->Prop)->World->Prop) (F:Nat->Prop) (W:World),Below w.heap.size w W->(∀k,F k->F0 k)->(∀s F,Stab W.heap.size F (J s F))->
  (∀pre x r F W1,xs=pre++x::r->W.heap.size<=W1.heap.size->(∀k,F k->k<W1.heap.size)->J pre F W1->
    YieldAt Fence.wide 4 P l (encs x) W1 fun e W'=>e= .returned (.bool true)/\∃F',J (pre++[x]) F' W'/\Grow F F' W1 W')->
  J [] F W->(∀k,F k->k<W.heap.size)->
  Calls P gf (#[.func (.yield l) #[] #[]]++lb) W fun e W'=>(∃v,e= .returned v)/\∃F',J xs F' W'/\Grow F F' W W'
def YmF {α:Type}(I:List α->(Nat->Prop)->World->Prop)(F:Nat->Prop)(s:List α)(W:World):Exit->Act->World->Prop
 |.normal,_,W'=>∃F',I s F' W'/\Grow F F' W W'
 |_,_,_=>False
theorem Yhw {α:Type}{P:Program}{g:Operand}{ps:Array Tmp}{assign body:Code}{Q:Exit->Act->World->Prop}{a:Act}{w:World}
 {gf:Nat}{lb:Array Value}(hg:a.eval g= .func (.func gf) #[] lb)(eg:∀args w,(callFunc gf args).run P w= .ok (.enter gf args) w)
 {encs:α->Array Value}{xs:List α}{F0:Nat->Prop}(hseq:SeqT P gf lb encs xs F0 w)(hps:∀x,(encs x).size=ps.size)
 (I:List α->(Nat->Prop)->World->Prop)(hF0:∀k,F0 k->k<w.heap.size)(hI:∀s F,Stab w.heap.size F (I s F))(h0:I [] F0 w)(a₁:α->Act)
 (hassign:∀(l:Nat) (x:α) (W:World) (K:Act->World->Prop),K (a₁ x) W->
   assign.wpIn (Fence.wide.inRound l) 4 P (Exit.then K (fun _ _ _=>False)) { tmps:=(ps.zip (encs x)).foldl (fun t (p,v)=>t.setIfInBounds p v) a.tmps,defers:=[] } W)
 (hbody:∀(l:Nat) (pre:List α) (x:α) (r:List α) (F:Nat->Prop) (W:World),xs=pre++x::r->w.heap.size+2<=W.heap.size->(∀k,F k->k<W.heap.size)->I pre F W->
   body.wpIn (Fence.wide.inRound l) 4 P (YmF I F (pre++[x]) W) (a₁ x) W)
 (hdone:∀(F:Nat->Prop) (W:World),I xs F W->Grow F0 F w W->W.heap[w.heap.size]? =some (.deferred (some []))->w.heap.size+2<=W.heap.size->
   (∀k,F k->k≠w.heap.size)->Q .normal { a with defers:={ target:=.collected w.heap.size,args:=#[] }::a.defers } W):
 (Code.rangeFunc g ps assign body).wp P Q a w:=by
 refine(wpIn_wide (n:=6)).1 ?_;refine wpIn_rangeFunc ?_;intro fn hfn;obtain⟨rec,hrec⟩:∃rec:LoopState->Option Code->Loop,rec=fun st pe=>{ state:=st,pending:=pe,fn,tmps:=a.tmps,params:=ps,assign,body,defers:=w.heap.size }:=⟨_,rfl⟩;obtain⟨W1,hW1⟩:∃W1,(w.alloc (.deferred (some []))).alloc (.loop (rec .ready none))=W1:=⟨_,rfl⟩;have hz:W1.heap.size=w.heap.size+2:=by rw[<-hW1]; simp
 have hL1:W1.heap[w.heap.size+1]? =some (.loop (rec .ready none)):=by
  rw[<-hW1]; have:=World.alloc_heap_new (w.alloc (.deferred (some []))) (.loop (rec .ready none)); rwa [World.size_alloc] at this
 have hK1:W1.heap[w.heap.size]? =some (.deferred (some [])):=by
  rw[<-hW1]; exact(Below.heap_alloc _ _ _ Zs).trans (World.alloc_heap_new w _)
 have hKW:Keep F0 w W1:=by rw[<-hW1]; exact(Keep.of_alloc (S:=F0) w _).trans (Keep.of_alloc _ _) (fun _ _ q=>q)
 have hI1:I [] F0 W1:=by rw[<-hW1]; exact(hI _ _).alloc ((hI _ _).alloc h0 _) _
 have hb1:Below w.heap.size w W1:=by rw[<-hW1]; exact((Below.refl _ w).alloc (Nat.le_refl _) _).alloc Zs _
 have hF1:∀k,F0 k->k<W1.heap.size/\k≠w.heap.size/\k≠w.heap.size+1:=fun k q=>by have:=hF0 k q; omega
 refine⟨w.heap.size+1,[{ target:=.collected w.heap.size,args:=#[] }],W1,{ target:=.fn (.func gf) lb,args:=#[.func (.yield (w.heap.size+1)) #[] #[]] },W1,gf,
  #[.func (.yield (w.heap.size+1)) #[] #[]]++lb,W1,?_,?_,?_,?_,fun _=>by decide,?_⟩
 ·rw[<-hW1,hrec]; exact run_enterLoop_outer _ _ _ _ _
 ·simp only[resolve,hg];simp[go_sem]
 ·exact fun _ _=>trivial
 ·simp[invoke,go_sem,eg]
 ·refine callsIn_wide.2 ((hseq (w.heap.size+1)
   (fun s F W=>I s F W/\W.heap[w.heap.size+1]? =some (.loop (rec .ready none))/\W.heap[w.heap.size]? =some (.deferred (some []))/\(∀k,F k->k≠w.heap.size/\k≠w.heap.size+1)/\w.heap.size+2<=W.heap.size) F0 W1 hb1 (fun _ q=>q) ?_ ?_
   ⟨hI1,hL1,hK1,fun k q=>(hF1 k q).2,by omega⟩ (fun k q=>(hF1 k q).1)).mono ?_)
  ·
   rintro s F X Y ⟨hi,hl,hk,hF,hX⟩ hKp;refine⟨hI s F X Y hi (hKp.mono fun _ _ q=>⟨by omega,q.2⟩),(hKp.block _ Zo (fun q=>by omega)).trans hl,(hKp.block _ Zo (fun q=>by omega)).trans hk,hF,Nat.le_trans hX hKp.size⟩
  ·
   rintro pre x r F W hxs hWz hFlt ⟨hi,hl,hk,hF,hX⟩;have hlt:w.heap.size+1<W.heap.size:=Zo;have hy:=run_yield (P:=P) (args:=encs x) hl (by rw[hrec]; exact hps x);rw[hrec] at hy;refine⟨fn,_,assign,body,hy,roundIn_of_wpIn trivial (hassign _ x W _ ⟨_,run_beginRound hl (by rw[hrec]),?_⟩)⟩;obtain⟨V,hV⟩:∃V,W.putObj (w.heap.size+1) (.loop { rec .ready none with state:=.busy })=V:=⟨_,rfl⟩;have hl2:V.heap[w.heap.size+1]? =some (.loop { rec .ready none with state:=.busy }):=by rw[<-hV]; exact World.putObj_heap_same hlt
   have kV:Keep (fun k=>k=w.heap.size+1) W V:=by rw[<-hV]; exact Jk W _ _
   have hk2:V.heap[w.heap.size]? =some (.deferred (some [])):=(kV.block _ Zo Zo).trans hk;have hi2:I pre F V:=(hI pre F).keep hi kV (fun i _ e=>⟨by omega,fun q=>(hF i q).2 e⟩);have hFV:∀k,F k->k<V.heap.size:=fun k q=>Nat.lt_of_lt_of_le (hFlt k q) kV.size;rw[show { rec .ready none with state:=.busy }=rec .busy none by rw[hrec]] at hV hl2;rw[show W.putObj (w.heap.size+1) (.loop { (rec .ready none) with state:=.busy })=V by rw[<-hV,hrec]];refine wpIn_mono (hbody _ pre x r F V hxs (Nat.le_trans hX kV.size) hFV hi2) ?_;rintro e a3 W3 hp;cases e with
   |
    normal=>
    obtain⟨F',hi3,hG⟩:=hp;have hl3:W3.heap[w.heap.size+1]? =some (.loop (rec .busy none)):=(hG.keep.block _ (by have:=kV.size; omega) (fun q=>(hF _ q).2 rfl)).trans hl2;have hk3:W3.heap[w.heap.size]? =some (.deferred (some [])):=(hG.keep.block _ (by have:=kV.size; omega) (fun q=>(hF _ q).1 rfl)).trans hk2;have hF3:∀k,F' k->k≠w.heap.size/\k≠w.heap.size+1:=fun k q=>(hG.sub k q).elim (fun e=>hF k e) (fun e=>by have:=kV.size; omega);have h3lt:w.heap.size+1<W3.heap.size:=(Zg hl3).1;have hr:=run_endRound (P:=P) none hl3;rw[show({ rec .busy none with state:=if (none:Option Code).isNone then .ready else .done,pending:=none }:Loop)=rec .ready none by rw[hrec]; rfl] at hr;have kE:Keep (fun k=>k=w.heap.size+1) W3 (W3.putObj (w.heap.size+1) (.loop (rec .ready none))):=Jk W3 _ _;refine⟨_,_,hr,rfl,F',⟨(hI _ F').keep hi3 kE (fun i _ e=>⟨by omega,fun q=>(hF3 i q).2 e⟩),World.putObj_heap_same h3lt,(kE.block _ Zo Zo).trans hk3,hF3,by have:=kE.size; omega⟩,?_⟩;refine⟨⟨?_,?_,?_,?_,?_⟩,fun k q=>(hG.sub k q).imp id (fun e=>Nat.le_trans kV.size e),fun k q=>Nat.lt_of_lt_of_le (hG.lt k q) kE.size⟩
    ·exact kE.os.trans (hG.keep.os.trans kV.os)
    ·exact kE.tape.trans (hG.keep.tape.trans kV.tape)
    ·exact kE.output.trans (hG.keep.output.trans kV.output)
    ·exact Nat.le_trans kV.size (Nat.le_trans hG.keep.size kE.size)
    ·intro k hk nF;by_cases e:k=w.heap.size+1
     ·rw[e,hl]; exact World.putObj_heap_same h3lt
     ·exact(kE.block k (Nat.lt_of_lt_of_le (Nat.lt_of_lt_of_le hk kV.size) hG.keep.size) e).trans ((hG.keep.block k (Nat.lt_of_lt_of_le hk kV.size) nF).trans (kV.block k hk e))
   |ret=>exact hp.elim
   |exit id=>exact hp.elim
   |goto t=>exact hp.elim
   |panic ch=>exact hp.elim
   |outgrown=>exact hp.elim
  ·
   rintro e W2 ⟨⟨v,rfl⟩,F',⟨hi,hl,hk,hF,hX⟩,hG⟩;have hr:=run_endLoop (P:=P) hl (by rw[hrec]; simp);rw[hrec] at hr;refine⟨none,_,hr,?_⟩;have kE:Keep (fun k=>k=w.heap.size+1) W2 (W2.putObj (w.heap.size+1) (.loop { rec .ready none with state:=.exhausted })):=Jk W2 _ _;rw[hrec] at kE;refine hdone F' _ ((hI _ F').keep hi kE (fun i _ e=>⟨by omega,fun q=>(hF i q).2 e⟩)) ?_ ((kE.block _ Zo Zo).trans hk) (Nat.le_trans hX kE.size) (fun k q=>(hF k q).1);exact(Grow.after hKW hG).then kE (fun i hi e=>by omega)
theorem Ycj {P:Program}{n m l:Nat}{f:FuncId}{tmps:Array Value}{assign body:Code}{w:World}{R:Ending->World->Prop}(h:RoundIn Fence.wide n P l f tmps assign body w R):RoundIn Fence.wide m P l f tmps assign body w R:=
 ⟨h.1,fun c cs _=>h.2 c cs (room_wide _)⟩
theorem YoJ {P:Program}{n m l:Nat}{f:FuncId}{tmps:Array Value}{assign body:Code}{w:World}{R:Ending->World->Prop}(l2:Nat)(h:RoundIn Fence.wide n P l f tmps assign body w R):RoundIn (Fence.wide.inRound l2) m P l f tmps assign body w R:=
 ⟨h.1,fun c cs _=>h.2 c cs (room_wide _)⟩
def SeqR {α:Type}(P:Program)(gf:Nat)(lb:Array Value)(Rd:α->Array Value->(Nat->Prop)->World->Prop)(xs:List α)(F0:Nat->Prop)(w:World):Prop:=
 ∀(l:Nat) (J:List α->(Nat->Prop)->World->Prop) (F:Nat->Prop) (W:World),Below w.heap.size w W->(∀k,F k->F0 k)->(∀s F,Stab W.heap.size F (J s F))->
  (∀pre x r F W1 args,xs=pre++x::r->W.heap.size<=W1.heap.size->(∀k,F k->k<W1.heap.size)->J pre F W1->Rd x args F W1->
    YieldAt Fence.wide 4 P l args W1 fun e W'=>e= .returned (.bool true)/\∃F',J (pre++[x]) F' W'/\Grow F F' W1 W')->
  J [] F W->(∀k,F k->k<W.heap.size)->
  Calls P gf (#[.func (.yield l) #[] #[]]++lb) W fun e W'=>(∃v,e= .returned v)/\∃F',J xs F' W'/\Grow F F' W W'
theorem YlN {α:Type}{P:Program}{g:Operand}{ps:Array Tmp}{assign body:Code}{Q:Exit->Act->World->Prop}{a:Act}{w:World}
 {gf:Nat}{lb:Array Value}(hg:a.eval g= .func (.func gf) #[] lb)(eg:∀args w,(callFunc gf args).run P w= .ok (.enter gf args) w)
 {Rd:α->Array Value->(Nat->Prop)->World->Prop}{xs:List α}{F0:Nat->Prop}(hseq:SeqR P gf lb Rd xs F0 w)(hps:∀x args F W,Rd x args F W->args.size=ps.size)
 (I:List α->(Nat->Prop)->World->Prop)(hF0:∀k,F0 k->k<w.heap.size)(hI:∀s F,Stab w.heap.size F (I s F))(h0:I [] F0 w)
 (Ax:α->(Nat->Prop)->Act->World->Prop)(hAx:∀x F a' X Y L r,Ax x F a' X->X.heap[L]? =some (.loop r)->Keep (fun k=>k=L) X Y->Ax x F a' Y)
 (hassign:∀(l:Nat) (pre:List α) (x:α) (r:List α) (F:Nat->Prop) (W:World) (args:Array Value) (K:Act->World->Prop),xs=pre++x::r->w.heap.size+2<=W.heap.size->(∀k,F k->k<W.heap.size)->I pre F W->Rd x args F W->
   (∀a' W',Below W.heap.size W W'->Ax x F a' W'->K a' W')->
   assign.wpIn (Fence.wide.inRound l) 4 P (Exit.then K (fun _ _ _=>False)) { tmps:=(ps.zip args).foldl (fun t (p,v)=>t.setIfInBounds p v) a.tmps,defers:=[] } W)
 (hbody:∀(l:Nat) (pre:List α) (x:α) (r:List α) (F:Nat->Prop) (W:World) (a':Act),xs=pre++x::r->w.heap.size+2<=W.heap.size->(∀k,F k->k<W.heap.size)->I pre F W->Ax x F a' W->
   body.wpIn (Fence.wide.inRound l) 4 P (YmF I F (pre++[x]) W) a' W)
 (hdone:∀(F:Nat->Prop) (W:World),I xs F W->Grow F0 F w W->W.heap[w.heap.size]? =some (.deferred (some []))->w.heap.size+2<=W.heap.size->
   (∀k,F k->k≠w.heap.size)->Q .normal { a with defers:={ target:=.collected w.heap.size,args:=#[] }::a.defers } W):
 (Code.rangeFunc g ps assign body).wp P Q a w:=by
 refine(wpIn_wide (n:=6)).1 ?_;refine wpIn_rangeFunc ?_;intro fn hfn;obtain⟨rec,hrec⟩:∃rec:LoopState->Option Code->Loop,rec=fun st pe=>{ state:=st,pending:=pe,fn,tmps:=a.tmps,params:=ps,assign,body,defers:=w.heap.size }:=⟨_,rfl⟩;obtain⟨W1,hW1⟩:∃W1,(w.alloc (.deferred (some []))).alloc (.loop (rec .ready none))=W1:=⟨_,rfl⟩;have hz:W1.heap.size=w.heap.size+2:=by rw[<-hW1]; simp
 have hL1:W1.heap[w.heap.size+1]? =some (.loop (rec .ready none)):=by
  rw[<-hW1]; have:=World.alloc_heap_new (w.alloc (.deferred (some []))) (.loop (rec .ready none)); rwa [World.size_alloc] at this
 have hK1:W1.heap[w.heap.size]? =some (.deferred (some [])):=by
  rw[<-hW1]; exact(Below.heap_alloc _ _ _ Zs).trans (World.alloc_heap_new w _)
 have hKW:Keep F0 w W1:=by rw[<-hW1]; exact(Keep.of_alloc (S:=F0) w _).trans (Keep.of_alloc _ _) (fun _ _ q=>q)
 have hI1:I [] F0 W1:=by rw[<-hW1]; exact(hI _ _).alloc ((hI _ _).alloc h0 _) _
 have hb1:Below w.heap.size w W1:=by rw[<-hW1]; exact((Below.refl _ w).alloc (Nat.le_refl _) _).alloc Zs _
 have hF1:∀k,F0 k->k<W1.heap.size/\k≠w.heap.size/\k≠w.heap.size+1:=fun k q=>by have:=hF0 k q; omega
 refine⟨w.heap.size+1,[{ target:=.collected w.heap.size,args:=#[] }],W1,{ target:=.fn (.func gf) lb,args:=#[.func (.yield (w.heap.size+1)) #[] #[]] },W1,gf,
  #[.func (.yield (w.heap.size+1)) #[] #[]]++lb,W1,?_,?_,?_,?_,fun _=>by decide,?_⟩
 ·rw[<-hW1,hrec]; exact run_enterLoop_outer _ _ _ _ _
 ·simp only[resolve,hg];simp[go_sem]
 ·exact fun _ _=>trivial
 ·simp[invoke,go_sem,eg]
 ·refine callsIn_wide.2 ((hseq (w.heap.size+1)
   (fun s F W=>I s F W/\W.heap[w.heap.size+1]? =some (.loop (rec .ready none))/\W.heap[w.heap.size]? =some (.deferred (some []))/\(∀k,F k->k≠w.heap.size/\k≠w.heap.size+1)/\w.heap.size+2<=W.heap.size) F0 W1 hb1 (fun _ q=>q) ?_ ?_
   ⟨hI1,hL1,hK1,fun k q=>(hF1 k q).2,by omega⟩ (fun k q=>(hF1 k q).1)).mono ?_)
  ·rintro s F X Y ⟨hi,hl,hk,hF,hX⟩ hKp;refine⟨hI s F X Y hi (hKp.mono fun _ _ q=>⟨by omega,q.2⟩),(hKp.block _ Zo (fun q=>by omega)).trans hl,(hKp.block _ Zo (fun q=>by omega)).trans hk,hF,Nat.le_trans hX hKp.size⟩
  ·rintro pre x r F W args hxs hWz hFlt ⟨hi,hl,hk,hF,hX⟩ hRd;have hlt:w.heap.size+1<W.heap.size:=Zo;have hy:=run_yield (P:=P) (args:=args) hl (by rw[hrec]; exact hps x args F W hRd);rw[hrec] at hy;refine⟨fn,_,assign,body,hy,roundIn_of_wpIn trivial (hassign _ pre x r F W args _ hxs hX hFlt hi hRd ?_)⟩;intro a' U hbU hax;have hlU:U.heap[w.heap.size+1]? =some (.loop (rec .ready none)):=(hbU.block _ hlt).trans hl;have hkU:U.heap[w.heap.size]? =some (.deferred (some [])):=(hbU.block _ Zo).trans hk;have hUz:=hbU.size;have hiU:I pre F U:=hI pre F W U hi (Keep.of_below hbU);refine⟨_,run_beginRound hlU (by rw[hrec]),?_⟩;obtain⟨V,hV⟩:∃V,U.putObj (w.heap.size+1) (.loop { rec .ready none with state:=.busy })=V:=⟨_,rfl⟩;have hl2:V.heap[w.heap.size+1]? =some (.loop { rec .ready none with state:=.busy }):=by rw[<-hV]; exact World.putObj_heap_same Zo
   have kV:Keep (fun k=>k=w.heap.size+1) U V:=by rw[<-hV]; exact Jk U _ _
   have hk2:V.heap[w.heap.size]? =some (.deferred (some [])):=(kV.block _ Zo Zo).trans hkU;have hi2:I pre F V:=(hI pre F).keep hiU kV (fun i _ e=>⟨by omega,fun q=>(hF i q).2 e⟩);have hax2:Ax x F a' V:=hAx x F a' U V _ _ hax hlU kV;have hFV:∀k,F k->k<V.heap.size:=fun k q=>Nat.lt_of_lt_of_le (hFlt k q) (Nat.le_trans hUz kV.size);rw[show { rec .ready none with state:=.busy }=rec .busy none by rw[hrec]] at hV hl2;rw[show U.putObj (w.heap.size+1) (.loop { (rec .ready none) with state:=.busy })=V by rw[<-hV,hrec]];refine wpIn_mono (hbody _ pre x r F V a' hxs (Nat.le_trans hX (Nat.le_trans hUz kV.size)) hFV hi2 hax2) ?_;rintro e a3 W3 hp;cases e with
   |
    normal=>
    obtain⟨F',hi3,hG⟩:=hp;have kz:=kV.size;have hl3:W3.heap[w.heap.size+1]? =some (.loop (rec .busy none)):=(hG.keep.block _ Zo (fun q=>(hF _ q).2 rfl)).trans hl2;have hk3:W3.heap[w.heap.size]? =some (.deferred (some [])):=(hG.keep.block _ Zo (fun q=>(hF _ q).1 rfl)).trans hk2;have hF3:∀k,F' k->k≠w.heap.size/\k≠w.heap.size+1:=fun k q=>(hG.sub k q).elim (fun e=>hF k e) (fun e=>by omega);have h3lt:w.heap.size+1<W3.heap.size:=(Zg hl3).1;have hr:=run_endRound (P:=P) none hl3;rw[show({ rec .busy none with state:=if (none:Option Code).isNone then .ready else .done,pending:=none }:Loop)=rec .ready none by rw[hrec]; rfl] at hr;have kE:Keep (fun k=>k=w.heap.size+1) W3 (W3.putObj (w.heap.size+1) (.loop (rec .ready none))):=Jk W3 _ _;refine⟨_,_,hr,rfl,F',⟨(hI _ F').keep hi3 kE (fun i _ e=>⟨by omega,fun q=>(hF3 i q).2 e⟩),World.putObj_heap_same h3lt,(kE.block _ Zo Zo).trans hk3,hF3,by have:=kE.size; omega⟩,?_⟩;refine⟨⟨?_,?_,?_,?_,?_⟩,fun k q=>(hG.sub k q).imp id (fun e=>by omega),fun k q=>Nat.lt_of_lt_of_le (hG.lt k q) kE.size⟩
    ·exact kE.os.trans (hG.keep.os.trans (kV.os.trans hbU.os))
    ·exact kE.tape.trans (hG.keep.tape.trans (kV.tape.trans hbU.tape))
    ·exact kE.output.trans (hG.keep.output.trans (kV.output.trans hbU.output))
    ·exact Nat.le_trans hUz (Nat.le_trans kV.size (Nat.le_trans hG.keep.size kE.size))
    ·intro k hk nF;by_cases e:k=w.heap.size+1
     ·rw[e,hl]; exact World.putObj_heap_same h3lt
     ·have hkU:k<U.heap.size:=by omega
      exact(kE.block k (Nat.lt_of_lt_of_le (Nat.lt_of_lt_of_le hkU kV.size) hG.keep.size) e).trans ((hG.keep.block k (Nat.lt_of_lt_of_le hkU kV.size) nF).trans ((kV.block k hkU e).trans (hbU.block k hk)))
   |ret=>exact hp.elim
   |exit id=>exact hp.elim
   |goto t=>exact hp.elim
   |panic ch=>exact hp.elim
   |outgrown=>exact hp.elim
  ·rintro e W2 ⟨⟨v,rfl⟩,F',⟨hi,hl,hk,hF,hX⟩,hG⟩;have hr:=run_endLoop (P:=P) hl (by rw[hrec]; simp);rw[hrec] at hr;refine⟨none,_,hr,?_⟩;have kE:Keep (fun k=>k=w.heap.size+1) W2 (W2.putObj (w.heap.size+1) (.loop { rec .ready none with state:=.exhausted })):=Jk W2 _ _;rw[hrec] at kE;refine hdone F' _ ((hI _ F').keep hi kE (fun i _ e=>⟨by omega,fun q=>(hF i q).2 e⟩)) ?_ ((kE.block _ Zo Zo).trans hk) (Nat.le_trans hX kE.size) (fun k q=>(hF k q).1);exact(Grow.after hKW hG).then kE (fun i hi e=>by omega)
end Go.Proofs.YteamjdmhdfjopaaGreatDoor
