/- What is proved: the given statement EraseTwice of canarylaw32 in its first form (EraseTwiceSaid): what was erased once has nothing left to erase; conditions: those of the statement alone. -/
import Derived.Test.YtgfdbddglhblbaaGreatQan
import Derived.Test.YtgfdbddglhblbaaGreatQao
import Derived.Test.YtgfdbddglhblbaaGreatQbk
set_option maxHeartbeats 64000000
namespace Go.Proofs.YtgfdbddglhblbaaGreat.eraseTwice
open Go.Eng Go.ChangeShapes Go.WideShapes Go.ChangeAt Go.RowKit
set_option maxRecDepth 100000 in theorem Gr (H:Type)(enc:TypeId×Value→H)(W:World)(base:Nat)(args:Array Value)(ds gs:List (DataW H))(before:List MemPlace)(hval:∀(j:Nat) t v,Tryz.f4.params[j]?=some t→args[j]?=some v→Value.okWide Tryz.prog W .any base t v)(hW:DataW.Whole enc Tryz.prog Tryz.f4.params.toList Rows.eraseTwiceSpec.vars false W args.toList ds gs before)(hL:laidMetH Tryz.prog Rows.eraseTwiceRow.laid W):Calls Tryz.prog 4 args W fun e W'=>∃v,e=.returned v∧Rows.eraseTwiceSpec.post enc Tryz.prog Tryz.f4 false true false false W args v W':=by
 have hW':=hW;obtain⟨p,q,hA0,hV,rfl,hfz,hnd⟩:=hW';have hA:DataW.TrodAll enc Tryz.prog W 0 (fun _=>true) true Tryz.f4.params.toList args.toList ds p:=hA0;rw[Tryz.params4] at hA hval;obtain⟨v0,vs0,d0,ds0,p0,q0,hargs,rfl,rfl,h0,r0⟩:=trodAll_cons hA;obtain⟨rfl,rfl,rfl⟩:=trodAll_nil r0;obtain rfl:args=#[v0]:=by cases args;simp_all
 obtain⟨rfl,rfl⟩:=trodVars_none hV;have lt0:∀x∈p0,x.block<W.heap.size:=by obtain⟨m,hm⟩:=h0;exact DataW.trod_lt m _ _ _ hm
 obtain⟨a0,o0,s0,x0⟩:=L3 (T:=(KV (H1 .i64))) (Ef (Db Tryz.underlying3 (by kernel_rfl)) Tryz.underlying22 (by kernel_rfl) (by decide)) (fun _=>rfl) Tryz.underlying22 (hval 0 22 v0 rfl rfl) h0;have hr:∀(j:Nat)(d:D)(v:Value),[(KV (H1 .i64)).el a0][j]?=some d→(#[v0]:Array Value)[j]?=some v→Rd W (fun _=>False) d v:=by intro j d v h1 h2;match j with|0=>cases h1;cases h2;exact x0;|j+1=>cases h1
 refine(runP (sB a0 (Nat.le_trans o0.1 (by decide))) hL rfl hr).mono fun e W' hh=>?_;obtain⟨rfl,bel⟩:=hh;exact⟨_,rfl,_,_,_,[],_,[],hW,trodAll_mk1 (shut_bool Tryz.underlying4 _),(trodAll_cons_mk (Below.trod Bh (by kernel_rfl) (of_decide_eq_true (by kernel_rfl)) h0 bel lt0) trodAll_mk0),rfl,bel.frame _,fun h=>by cases h⟩
theorem N7 (os:Os){H:Type}(enc:TypeId×Value→H):∃places,DataW.whole enc Tryz.prog ((lL os).forCall (fun _ _=>0) ⟨#[],#[Value.slice none 0 0],[]⟩).memory Tryz.f4.params.toList Rows.eraseTwiceSpec.vars false #[Value.slice none 0 0].toList 8=some ([.nil],[],places):=⟨[],by kernel_rfl⟩
set_option maxRecDepth 100000 in theorem lifted (os:Os)(started:os.Started)(H:Type)(enc:TypeId×Value→H)(F:Stop.Interp):ReturnsInHanded {} Tryz.checked os 4 .any ((OpenSpec.ofChange Rows.eraseTwiceSpec).preRow enc Tryz.prog Tryz.f4 Rows.eraseTwiceRow.domain false Rows.eraseTwiceRow.laid) (((OpenSpec.ofChange Rows.eraseTwiceSpec).at F).post enc Tryz.prog Tryz.f4 false true false false):=by
 obtain⟨places,hx⟩:=N7 os enc;refine returnsInHanded_of_row (C:=Tryz.checked) (s:=OpenSpec.ofChange Rows.eraseTwiceSpec) own started (by kernel_rfl) Tryz.func4
  (witness_row_at (enc:=enc) (C:=Tryz.checked) false (lL os) #[Value.slice none 0 0] rfl (by kernel_rfl) (by kernel_rfl) (by kernel_rfl)
   (OpenSpec.preRow_of_cond 8 hx (by kernel_rfl) (fun k hk=>by cases hk) (by kernel_rfl) (C3 os _))) ?_;intro W base args ds gs before hval hW _ _ _ hL _ _;exact Gr H enc W base args ds gs before hval hW hL
theorem Oc:(Rows.eraseTwiceRow.inPlace==Tryz.prog.inPlace 4)=true:=by kernel_rfl
theorem Oe:(Rows.eraseTwiceRow.unfollowed==Tryz.prog.unfollowed 4)=true:=by kernel_rfl
theorem N9:(Rows.eraseTwiceRow.recurses==Tryz.prog.recurses 4)=true:=by kernel_rfl
theorem Ob:(Rows.eraseTwiceRow.named==Tryz.prog.varsNamed 4)=true:=by kernel_rfl
theorem N6:(Rows.eraseTwiceRow.lifted==Tryz.prog.liftsFinal)=true:=by rw[liftsFinal];kernel_rfl
theorem Od:(Tryz.prog.make==some Rows.eraseTwiceRow.make)=true:=by rw[LF];kernel_rfl
theorem Oa:(Rows.eraseTwiceRow.plainKeys==Tryz.prog.plainKeys)=true:=by rw[ML];kernel_rfl
theorem Lp:joinedFacts Tryz.prog 4 Tryz.f4 (OpenSpec.ofChange Rows.eraseTwiceSpec).bare Rows.eraseTwiceRow=true:=Dj mayEnter stopsHeard Bh Iu N6 Od Oa Oc Oe N9 Ob (by kernel_rfl)
theorem said:Rows.EraseTwiceSaid:=OpenClaim.holds_of_cond 4 Tryz.f4 rfl rfl rfl rfl rfl rfl rfl ⟨rfl,rfl,rfl,rfl,rfl⟩ rfl rfl rfl rfl rfl (by kernel_rfl) Tryz.func4 Lp
 (of_decide_eq_true (by kernel_rfl)) (by unfold Func.isWrapper;first|(rw[if_pos (by decide+kernel)];kernel_rfl)|(rw[if_neg (by decide+kernel)];exact⟨rfl,rfl⟩))
 (fun os started H enc _ F=>by rw[OpenClaim.pre_eq_preRow];exact lifted os started H enc F)
#print axioms said
end Go.Proofs.YtgfdbddglhblbaaGreat.eraseTwice
