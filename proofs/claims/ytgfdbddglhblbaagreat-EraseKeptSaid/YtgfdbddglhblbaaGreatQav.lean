/- A part of the proof of what is stated of the erasing of a mirror. -/
import Derived.Test.YtgfdbddglhblbaaGreatQau
import Derived.Test.YtgfdbddglhblbaaGreatQaq
import Derived.Maps.RangeWalk
import Derived.Maps.AppendAt
import Derived.Sort.EncStr
import Derived.Laws.StructEq
import Derived.Sort.Walk0
set_option maxHeartbeats 64000000
namespace Go.Proofs.YtgfdbddglhblbaaGreat
open Go.Eng
attribute [local irreducible] aO
set_option maxRecDepth 100000
structure bk where
 maxHead:Int
 maxBody:Int
 maxReply:Int
 cin:Int
 cout:Int
 clients:Int
 admins:Int
 listeners:Int
 stable:Int
 canary:Int
 shadow:Int
 tee:Int
 idle:Int
 reqd:Int
 shadd:Int
 reports:Int
 plan:Pl
 salt:List UInt8
 cookie:List UInt8
 mirror:Bool
 ignore:List (List UInt8)
def bi (c:bk):List D:=[.i .i64 c.maxHead,.i .i64 c.maxBody,.i .i64 c.maxReply,.i .i64 c.cin,.i .i64 c.cout,.i .i64 c.clients,.i .i64 c.admins,.i .i64 c.listeners,.i .i64 c.stable,.i .i64 c.canary,.i .i64 c.shadow,.i .i64 c.tee,.i .i64 c.idle,.i .i64 c.reqd,.i .i64 c.shadd,.i .i64 c.reports,.sl 1 (c.plan.ws.map (.i .i64)),.i .i64 c.plan.ms,.i .i64 c.plan.nu,.i .i64 c.plan.de,.i .i64 c.plan.ho,.i .i64 c.plan.wi,.s c.salt,.s c.cookie,.b c.mirror,.sl 1 (c.ignore.map .s)]
def di (c:bk):D:=.agg (bi c)
structure bk.Ok (c:bk):Prop where
 maxHead:64≤c.maxHead∧c.maxHead≤16384
 maxBody:0≤c.maxBody∧c.maxBody≤100000
 maxReply:0≤c.maxReply∧c.maxReply≤100000
 cin:c.maxHead≤c.cin∧c.cin≤100000
 cout:1≤c.cout∧c.cout≤100000
 clients:1≤c.clients∧c.clients≤100
 admins:1≤c.admins∧c.admins≤100
 listeners:1≤c.listeners∧c.listeners≤100
 stable:0≤c.stable∧c.stable≤100
 canary:0≤c.canary∧c.canary≤100
 shadow:0≤c.shadow∧c.shadow≤100
 tee:0≤c.tee∧c.tee≤500000
 idle:1≤c.idle∧c.idle≤1000000
 reqd:1≤c.reqd∧c.reqd≤1000000
 shadd:1≤c.shadd∧c.shadd≤1000000
 reports:0≤c.reports∧c.reports≤100
 plan:gk c.plan=true
 planLen:c.plan.ws.length≤8
 planPos:∀a,a∈c.plan.ws→0≤a∧a≤20000
 salt:c.salt.length≤64
 cookie:eX c.cookie=true
 cookieLen:c.cookie.length≤64
 ignoreLen:c.ignore.length≤16
 ignore:∀x,x∈c.ignore→eX x=true∧x.length≤1000
theorem yG {n lo hi:Int}(h:lo≤n∧n≤hi):ay (CG G) 50 [.i .i64 n,.i .i64 lo,.i .i64 hi] [.b true]:=by
 refine ay.mk (n:=15) Tryz.func50 rfl rfl rfl (Nat.le_of_ble_eq_true rfl) (aj (by omega) (aj (by omega) ?_));repeat'(first|refine ad ?_|refine dk ?_|refine ae (fun _=>?_) (fun _=>?_)|refine aq ?_)
 rfl
theorem uG (c:bk)(h:c.Ok):ay (CG G) 25 [di c] [.i .i64 0]:=by
 obtain⟨h1,h2,h3,h4,h5,h6,h7,h8,h9,h10,h11,h12,h13,h14,h15,h16,hp,hpl,hpp,hs,hc,hcl,hil,hi⟩:=h;have p1:=vg c.plan (by omega);rw[hp,if_pos rfl] at p1;have t1:=n9 c.cookie (by omega);rw[hc] at t1;have hll:(c.ignore.map D.s).length=c.ignore.length:=by simp
 unfold di bi;unfold sr at p1;refine ay.mk (n:=132) Tryz.func25 rfl rfl rfl (Nat.le_of_ble_eq_true rfl) (ah (yG h1) (ah (yG h2) (ah (yG h3) (ah (yG h4) (ah (yG h5) (ah (yG h6) (ah (yG h7) (ah (yG h8) (ah (yG h9) (ah (yG h10) (ah (yG h11) ?_)))))))))));refine ah (yG h12) (ah (yG h13) (ah (yG h14) (ah (yG h15) (ah (yG ⟨h16.1,by omega⟩) (ah p1 (aj rfl (aj (by omega) (ah t1 (aj (by omega) (aj (by rw[hll];omega) (ad ?_)))))))))));apply aA (fun i:Nat=>i≤c.ignore.length) (fun i=>⟨[(1,.op 16 0 0),(3,.d (.b true)),(4,dI (i:Int))],[(16,some (.box [dI c.maxHead,dI c.maxBody,dI c.maxReply,dI c.cin,dI c.cout,dI c.clients,dI c.admins,dI c.listeners,dI c.stable,dI c.canary,dI c.shadow,dI c.tee,dI c.idle,dI c.reqd,dI c.shadd,dI c.reports,.d (.sl 1 (c.plan.ws.map (.i .i64))),dI c.plan.ms,dI c.plan.nu,dI c.plan.de,dI c.plan.ho,dI c.plan.wi,.d (.s c.salt),.d (.s c.cookie),.d (.b c.mirror),.d (.sl 1 (c.ignore.map .s))]))],2⟩) (fun i=>c.ignore.length-i) 0 (Nat.zero_le _) [(16,_)];·exact aF
 ·intro i hii;refine ad ?_;refine ae (fun g=>?_) (fun g=>?_)
  ·have hi':i<c.ignore.length:=by omega
   have hx:=hi _ (Nr hi');have t2:=n9 c.ignore[i] (by omega);rw[hx.1] at t2;refine ad (ao i rfl (bt hi') (ah t2 (ar ⟨by omega,by omega⟩ ?_)));apply aG (i+1) [(16,_)] (by omega) (by omega);exact aF
  ·obtain rfl:i=c.ignore.length:=by omega
   repeat'(first|refine ad ?_|refine dk ?_|refine ae (fun _=>?_) (fun _=>?_)|refine aq ?_)
   rfl
theorem hardR (c:bk)(h:c.Ok):ay (CG G) 74 [di c] [.i .i64 (c.cout+2*c.maxHead+c.maxReply+2000)]:=by
 have c1:=uG c h;have h1:=h.maxHead;have h2:=h.maxReply;have h3:=h.cout;unfold di bi at*;refine ay.mk (n:=16) Tryz.func74 rfl rfl rfl (Nat.le_of_ble_eq_true rfl) (ad (ah c1 (ai (by decide) ?_)));repeat'(first|refine ad ?_|refine dk ?_|refine ae (fun _=>?_) (fun _=>?_)|refine aq ?_)
 rfl
theorem Lg (c:bk)(h:c.Ok):ay (CG G) 204 [di c] [.i .i64 (2*c.maxHead+c.maxBody+2000)]:=by
 have c1:=uG c h;have h1:=h.maxHead;have h2:=h.maxBody;unfold di bi at*;refine ay.mk (n:=13) Tryz.func204 rfl rfl rfl (Nat.le_of_ble_eq_true rfl) (ad (ah c1 (ai (by decide) ?_)));repeat'(first|refine ad ?_|refine dk ?_|refine ae (fun _=>?_) (fun _=>?_)|refine aq ?_)
 rfl
structure Rte where
 cls:Int
 id:List UInt8
 new:Bool
def qk (d s:Int):List UInt8:=Kw (lx [aY 10 (max d 0),aY 10 (max s 0)]) 16
def vU (c:bk)(l:List bB)(d s:Int):List UInt8×Bool:=if(NF c.cookie (cZ (aM qD l))).2=false∨GY (NF c.cookie (cZ (aM qD l))).1=false then(qk d s,true) else((NF c.cookie (cZ (aM qD l))).1,false)
def bkt (salt id:List UInt8):Int:=IntKind.i64.wrap ((lx [salt,id]).tmod 10000)
def AG (c:bk)(x:Ro)(l:List bB)(d s:Int):Rte:=⟨if 0≤bkt c.salt (vU c l d s).1∧bkt c.salt (vU c l d s).1<fV x c.plan then 5 else 4,(vU c l d s).1,(vU c l d s).2⟩
theorem ud (d s:Int):(qk d s).length≤256:=by have:=vJ (lx [aY 10 (max d 0),aY 10 (max s 0)]) 16;unfold qk;omega
theorem xF (c:bk)(l:List bB)(d s:Int):(vU c l d s).1.length≤256:=by
 have:=ud d s;unfold vU;split;·exact this
 ·rename_i h;have h2:GY (NF c.cookie (cZ (aM qD l))).1=true:=by
   cases h3:GY (NF c.cookie (cZ (aM qD l))).1;·exact absurd (.inr h3) h
   ·rfl
  unfold GY at h2;simp only[Bool.and_eq_true,decide_eq_true_eq] at h2;show(NF c.cookie (cZ (aM qD l))).1.length≤256;omega
theorem I0 (c:bk)(x:Ro)(l:List bB)(d s:Int)(h:c.Ok)(hl:br l≤1000000)(hd:fT d)(hs:fT s):ay (CG G) 141 [di c,oW x,.sl 2 (l.map aL),.i .i64 d,.i .i64 s] [.agg [.i .i64 (AG c x l d s).cls,.s (AG c x l d s).id,.b (AG c x l d s).new]]:=by
 have hz:=dE l;have hv:=cK (cv qD) l;have c1:=findR l c.cookie (by omega) (fun f hf=>by have:=eu hf;omega) (by unfold aM;omega);have hpl:=h.planLen;have c5:=wm x c.plan (by omega);have hsl:=h.salt;have hfl:(NF c.cookie (cZ (aM qD l))).1.length≤1000000000∨True:=.inr trivial;have hid:=xF c l d s;have hni:=Gu d s hd hs;have key:∀id:List UInt8,id.length≤256→ay (CG G) 170 [.s c.salt,.s id] [.i .i64 (bkt c.salt id)]:=fun id hi=>IK c.salt id (by omega) (by omega);have b1:=key _ hid;have k1:=JB (bkt c.salt (vU c l d s).1) (fV x c.plan);have fv:(NF c.cookie (cZ (aM qD l))).1.length≤1000000:=by
  have hp:∀p,p∈cZ (aM qD l)→p.2.length≤1000000:=by
   intro p hp;obtain⟨v,hv1,hv2⟩:=List.mem_flatMap.1 hp;obtain⟨t,ht1,ht2⟩:=List.mem_flatMap.1 hv2;have h1:=dz ht1;have h2:=gT hv1;have h3:=fM t;unfold ei at ht2;split at ht2;·cases ht2
   ·split at ht2;·simp only[Nx] at ht2;subst ht2;simp only[Nz];unfold aM at*;omega
    ·cases ht2
  generalize cZ (aM qD l)=ps at hp;clear c1 hni key b1 k1 hid hfl;induction ps with|nil=>simp[NF];|cons p r ih=>
   rw[NF];split;·exact hp p (by simp)
   ·exact ih fun q hq=>hp q (by simp[hq])
 have c3:=idR (NF c.cookie (cZ (aM qD l))).1 (by omega);unfold AG;unfold vU at*;rw[show qk d s=Kw (lx [aY 10 (max d 0),aY 10 (max s 0)]) 16 from rfl] at*;generalize Kw (lx [aY 10 (max d 0),aY 10 (max s 0)]) 16=ni at*;generalize (NF c.cookie (cZ (aM qD l))).1=f1 at*;generalize (NF c.cookie (cZ (aM qD l))).2=f2 at*;generalize hw:fV x c.plan=w at*;have fin:∀(id:List UInt8)(nw:Bool),ay (CG G) 170 [.s c.salt,.s id] [.i .i64 (bkt c.salt id)]→True:=fun _ _ _=>trivial;unfold di bi oW sr at*;refine ay.mk (n:=47) Tryz.func141 rfl rfl rfl (Nat.le_of_ble_eq_true rfl) (ah c1 ?_);by_cases q:f2=false∨GY f1=false
 ·rw[if_pos q] at*;simp only at*;apply bd (fun _:Unit=>True) (fun _=>⟨[(5,.op 16 0 0),(6,.op 17 0 0),(10,.op 18 0 0),(13,.op 19 0 0)],[(16,some (.box [dI c.maxHead,dI c.maxBody,dI c.maxReply,dI c.cin,dI c.cout,dI c.clients,dI c.admins,dI c.listeners,dI c.stable,dI c.canary,dI c.shadow,dI c.tee,dI c.idle,dI c.reqd,dI c.shadd,dI c.reports,.d (.sl 1 (c.plan.ws.map (.i .i64))),dI c.plan.ms,dI c.plan.nu,dI c.plan.de,dI c.plan.ho,dI c.plan.wi,.d (.s c.salt),.d (.s c.cookie),.d (.b c.mirror),.d (.sl 1 (c.ignore.map .s))])),(17,some (.box [dI x.st,dI x.sg,dI x.he,dI x.tt,dI x.er,dI x.ag])),(18,some (.box [dI 0,.d (.s []),.d (.b false)])),(19,some (.box [dI 4,.d (.s ni),.d (.b true)]))],2⟩)
  ·rcases q with q|q
   ·subst q;repeat'(first|refine ad ?_|refine dk ?_|refine ah (hni) ?_|refine ae (fun _=>?_) (fun _=>?_)|refine aq ?_)
    apply aC () [(16,_),(17,_),(18,_),(19,_)] trivial;exact aF
   ·rw[q] at c3;refine gG (fun e=>?_) (fun e=>?_)
    ·repeat'(first|refine ad ?_|refine dk ?_|refine ah (c3) ?_|refine ah (hni) ?_|refine ae (fun _=>?_) (fun _=>?_)|refine aq ?_)
     apply aC () [(16,_),(17,_),(18,_),(19,_)] trivial;exact aF
    ·repeat'(first|refine ad ?_|refine dk ?_|refine ah (c3) ?_|refine ah (hni) ?_|refine ae (fun _=>?_) (fun _=>?_)|refine aq ?_)
     apply aC () [(16,_),(17,_),(18,_),(19,_)] trivial;exact aF
  ·intro _ _;refine ad (ah b1 (ah c5 ?_));refine bp k1 (fun e=>?_) (fun e=>?_)
   ·rw[if_pos (of_decide_eq_true e)];repeat'(first|refine ad ?_|refine dk ?_|refine ae (fun _=>?_) (fun _=>?_)|refine aq ?_)
    rfl
   ·rw[if_neg (of_decide_eq_false e)];repeat'(first|refine ad ?_|refine dk ?_|refine ae (fun _=>?_) (fun _=>?_)|refine aq ?_)
    rfl
 ·rw[if_neg q] at*;simp only at*;have q1:f2=true:=by
   cases f2;·exact absurd (.inl rfl) q
   ·rfl
  have q2:GY f1=true:=by
   cases h3:GY f1;·exact absurd (.inr h3) q
   ·rfl
  subst q1;rw[q2] at c3;refine ad (ah c3 (ad (ah b1 (ah c5 ?_))));refine bp k1 (fun e=>?_) (fun e=>?_)
  ·rw[if_pos (of_decide_eq_true e)];repeat'(first|refine ad ?_|refine dk ?_|refine ae (fun _=>?_) (fun _=>?_)|refine aq ?_)
   rfl
  ·rw[if_neg (of_decide_eq_false e)];repeat'(first|refine ad ?_|refine dk ?_|refine ae (fun _=>?_) (fun _=>?_)|refine aq ?_)
   rfl
def jO (e ph:Int):Int:=if e=3∧ph=0 then 431 else if e=9 then 413 else if e=6 then 505 else 400
theorem FO (e ph:Int):ay (CG G) 165 [.i .i64 e,.i .i64 ph] [.i .i64 (jO e ph)]:=by
 refine mD 18 Tryz.func165 ?_;repeat'(first|refine ad ?_|refine dk ?_|refine ae (fun _=>?_) (fun _=>?_)|refine aq ?_)
 all_goals refine congrArg (fun x=>[D.i .i64 x]) ?_
 all_goals (unfold jO;repeat' split)
 all_goals first|rfl|omega
theorem withH (l m:List bB)(hl:l.length≤100000000)(hm:m.length≤100000000):aH (CG G) 216 [.d (.sl 2 (l.map aL)),.d (.sl 2 (m.map aL))] [] [.os 16] [(16,some (.buf 2 ((l++m).map aL)))]:=by
 refine aH.mk (n:=10) Tryz.func216 rfl rfl rfl (Nat.le_of_ble_eq_true rfl) rfl (aB (by simp;omega) (aB (by simp;omega) ?_));repeat'(first|refine ad ?_|refine dk ?_|refine ae (fun _=>?_) (fun _=>?_)|refine aq ?_)
 apply aw [(16,_)];exact aF
def Gj (fs more:List bB):List bB:=dB (bw fs) gN gZ++more
noncomputable def ru (vs:List (List UInt8)):Option (List UInt8):=match vs with|[x]=>if(bV 10 0 x).2=2 then none else some x|_=>none
theorem ou {vs:List (List UInt8)}(h:vs.length≠1):ru vs=none:=by
 unfold ru;split;·exact absurd rfl h
 ·rfl
theorem q9 (x:List UInt8):ru [x]=if(bV 10 0 x).2=2 then none else some x:=rfl
noncomputable def A7 (m:List UInt8)(a:iZ)(size:Int):Option (List UInt8):=if m=cO∨a.st=304 then ru (aM iM a.fs) else some (aY 10 size)
noncomputable def wx (m:List UInt8)(a:iZ)(size:Int):List bB:=match A7 m a size with|none=>[]|some x=>if a.st=204 then[] else[(qn,x)]
noncomputable def wH (m:List UInt8)(a:iZ)(size:Int)(more:List bB):iZ:={a with mi:=1,fs:=Gj a.fs more++wx m a size}
theorem FT (fs more:List bB):br (Gj fs more)≤3*br fs+30+br more:=by have h0:=iK fs;have h1:=gL (bw fs) gN gZ;have e2:gN.length=3:=rfl;have e3:gZ.length=10:=rfl;unfold Gj;rw[b7];omega
theorem DB (m:List UInt8)(a:iZ)(size:Int)(hs:size≤9223372036854775807):br (wx m a size)≤br a.fs+40:=by
 have e4:qn.length=14:=rfl;have l1:=bv (n:=size) hs;have h0:br []=0:=rfl;have hv:=cK (cv iM) a.fs;have key:∀x,A7 m a size=some x→x.length≤br a.fs+19:=by
  intro x hx;unfold A7 at hx;split at hx
  ·unfold ru at hx;split at hx
   ·rename_i y hy;split at hx;·cases hx
    ·cases hx;have:=gT (l:=aM iM a.fs) (x:=x) (by rw[hy];simp);unfold aM at*;omega
   ·cases hx
  ·cases hx;omega
 unfold wx;split;·omega
 ·rename_i x hx;have:=key x hx;split;·omega
  ·rw[ez];simp only;omega
theorem backR (m:List UInt8)(a:iZ)(size:Int)(more:List bB)(h:br a.fs≤10000000)(hm:br more≤10000000)(hs:fT size):ay (CG G) 179 [.s m,eF a,.i .i64 size,.sl 2 (more.map aL)] [eF (wH m a size more)]:=by
 have hz:=dE a.fs;have hzm:=dE more;have h0:=iK a.fs;have h1:=gL (bw a.fs) gN gZ;have e2:gN.length=3:=rfl;have e3:gZ.length=10:=rfl;have h2:=dE (dB (bw a.fs) gN gZ);have c1:=oQ a.fs iM (by omega) (by decide) (fun f hf=>by have:=eu hf;omega);have c2:=GG a.fs (by omega);have c3:=viaR (bw a.fs) (by omega);have c4:=withH (dB (bw a.fs) gN gZ) more (by omega) (by omega);have c5:=gw size hs;have hv:=cK (cv iM) a.fs;have hvm:∀x,x∈aM iM a.fs→x.length≤1000000000:=fun x hx=>by have:=gT hx;unfold aM at*;omega
 unfold wH wx A7;rw[show Gj a.fs more=dB (bw a.fs) gN gZ++more from rfl];have hfl:(dB (bw a.fs) gN gZ++more).length≤100000000:=by rw[Na];omega
 generalize hF:dB (bw a.fs) gN gZ++more=F at*;generalize dB (bw a.fs) gN gZ=v at*;generalize bw a.fs=u at*;generalize hvs:aM iM a.fs=vs at*;unfold bP at c1;have hvl:(vs.map D.s).length=vs.length:=by simp
 have hFl:(F.map aL).length=F.length:=by simp
 unfold eF bU at*;have add:∀x:List UInt8,(F++(if a.st=204 then[] else[(qn,x)]))=if a.st≠204 then F++[(qn,x)] else F:=by intro x;by_cases e:a.st=204<;>simp[e]
 refine ay.mk (n:=61) Tryz.func179 rfl rfl rfl (Nat.le_of_ble_eq_true rfl) (ah c1 (ah c2 ?_));refine aT (ak [] c3 ?_ ?_);·exact aF
 refine aT (ak [] c4 ?_ ?_);·exact aF
 refine ah c5 (ad ?_);refine ae (fun g1=>?_) (fun g1=>?_)
 ·have g1:m=cO:=g1;rw[if_pos (show m=cO∨a.st=304 from .inl g1)];refine ad ?_;refine ae (fun g3=>?_) (fun g3=>?_)
  ·rw[ou (by omega)];repeat'(first|refine ad ?_|refine dk ?_|refine ae (fun _=>?_) (fun _=>?_)|refine aq ?_)
   refine aN ?_;simp
  ·match vs,(by omega:vs.length=1) with
   |[x],_=>
    have p1:=ju x 0 ⟨by decide,by decide⟩ (by have:=hvm x (by simp);omega);unfold kw at p1;rw[q9];refine ao 0 rfl rfl (ah p1 (ad ?_));refine ae (fun g4=>?_) (fun g4=>?_)
    ·rw[if_pos g4];repeat'(first|refine ad ?_|refine dk ?_|refine ae (fun _=>?_) (fun _=>?_)|refine aq ?_)
     refine aN ?_;simp
    ·rw[if_neg g4];simp only[add];refine ao 0 rfl rfl (ad ?_);refine ae (fun g5=>?_) (fun g5=>?_)
     ·rw[if_pos g5];refine aB (by simp;omega) ?_;repeat'(first|refine ad ?_|refine dk ?_|refine ae (fun _=>?_) (fun _=>?_)|refine aq ?_)
      refine aN ?_;simp[aL,qn]
     ·rw[if_neg g5];repeat'(first|refine ad ?_|refine dk ?_|refine ae (fun _=>?_) (fun _=>?_)|refine aq ?_)
      rfl
 ·have g1:m≠cO:=g1;refine ae (fun g2=>?_) (fun g2=>?_)
  ·rw[if_pos (show m=cO∨a.st=304 from .inr g2)];refine ad ?_;refine ae (fun g3=>?_) (fun g3=>?_)
   ·rw[ou (by omega)];repeat'(first|refine ad ?_|refine dk ?_|refine ae (fun _=>?_) (fun _=>?_)|refine aq ?_)
    refine aN ?_;simp
   ·match vs,(by omega:vs.length=1) with
    |[x],_=>
     have p1:=ju x 0 ⟨by decide,by decide⟩ (by have:=hvm x (by simp);omega);unfold kw at p1;rw[q9];refine ao 0 rfl rfl (ah p1 (ad ?_));refine ae (fun g4=>?_) (fun g4=>?_)
     ·rw[if_pos g4];repeat'(first|refine ad ?_|refine dk ?_|refine ae (fun _=>?_) (fun _=>?_)|refine aq ?_)
      refine aN ?_;simp
     ·rw[if_neg g4];simp only[add];refine ao 0 rfl rfl (ad (aj (by omega) ?_));rw[if_pos (by omega)];refine aB (by simp;omega) ?_;repeat'(first|refine ad ?_|refine dk ?_|refine ae (fun _=>?_) (fun _=>?_)|refine aq ?_)
      refine aN ?_;simp[aL,qn]
  ·rw[if_neg (show¬(m=cO∨a.st=304) by rintro(h|h);exact g1 h;exact g2 h)];simp only[add];refine ad ?_;refine ae (fun g5=>?_) (fun g5=>?_)
   ·rw[if_pos g5];refine aB (by simp;omega) ?_;repeat'(first|refine ad ?_|refine dk ?_|refine ae (fun _=>?_) (fun _=>?_)|refine aq ?_)
    refine aN ?_;simp[aL,qn]
   ·rw[if_neg g5];repeat'(first|refine ad ?_|refine dk ?_|refine ae (fun _=>?_) (fun _=>?_)|refine aq ?_)
    rfl
def cnHB:List UInt8:=[67,111,110,110,101,99,116,105,111,110]
def f8 (b:Bool):List bB:=if b then[(cnHB,Fz)] else[]
theorem yA (b:Bool):ay (CG G) 131 [.b b] [.sl 2 ((f8 b).map aL)]:=by cases b;all_goals
 refine mD 6 Tryz.func131 ?_;repeat'(first|refine ad ?_|refine dk ?_|refine ae (fun _=>?_) (fun _=>?_)|refine aq ?_)
 rfl
def j8 (st:Int)(m:List UInt8)(end_:Bool):iZ:=⟨st,du st,1,sF eE (du st++[10])++f8 end_,if m=cO then[] else du st++[10]⟩
theorem kC (n:Int):(du n).length≤40:=by
 have key:∀l:List (Int×List UInt8),(∀p,p∈l→p.2.length≤40)→(mz n l).length≤40:=by intro l;induction l with|nil=>intro _;show([69,114,114,111,114]:List UInt8).length≤40;decide;|cons p r ih=>
  intro h;unfold mz;split;·exact h p (by simp)
  ·exact ih fun q hq=>h q (by simp[hq])
 exact key _ (by decide)
theorem ku (st:Int)(m:List UInt8)(b:Bool):ay (CG G) 99 [.i .i64 st,.s m,.b b] [eF (j8 st m b)]:=by
 have c1:=nL st;have c2:=yA b;have hr:=kC st;have hcl:(f8 b).length≤1:=by cases b<;>decide
 have c3:=M8 st (du st++[10]) (f8 b) (by simp;omega) (by omega);unfold j8;unfold vf qN at c3;unfold eF bU;generalize du st=rs at*;refine ay.mk (n:=19) Tryz.func99 rfl rfl rfl (Nat.le_of_ble_eq_true rfl) (ah c1 (bg (by simp;omega) (ah c2 (ah c3 (ad ?_)))));refine ae (fun g1=>?_) (fun g1=>?_)
 ·have g1:m=cO:=g1;rw[if_pos g1];repeat'(first|refine ad ?_|refine dk ?_|refine ae (fun _=>?_) (fun _=>?_)|refine aq ?_)
  rfl
 ·have g1:m≠cO:=g1;rw[if_neg g1];repeat'(first|refine ad ?_|refine dk ?_|refine ae (fun _=>?_) (fun _=>?_)|refine aq ?_)
  rfl
def mR:List UInt8:=[120,45,114,101,113,117,101,115,116,45,105,100]
def mf:List UInt8:=[120,45,115,104,97,100,111,119]
def Es:List UInt8:=[88,45,82,101,113,117,101,115,116,45,73,100]
def Il:List UInt8:=[88,45,83,104,97,100,111,119]
def vI (r:eL)(peer ser:Int)(mir:Bool):List bB:=kr (ga [mR,mf] r.fs) r.fr r.body.length (aY 10 peer)++[(Es,aY 10 ser)]++if mir then[(Il,[49])] else[]
def oB (r:eL)(peer ser:Int)(mir:Bool):eL:={r with mi:=1,fs:=vI r peer ser mir}
theorem Fb (r:eL)(peer ser:Int)(mir:Bool)(hb:r.body.length≤100000000)(hp:peer≤9223372036854775807)(hs:ser≤9223372036854775807):br (vI r peer ser mir)≤9*br r.fs+450:=by
 have l1:=bv (n:=peer) hp;have l2:=bv (n:=ser) hs;have h1:=sY (ga [mR,mf] r.fs) r.fr r.body.length (aY 10 peer) (by omega) (by omega);have h2:br (ga [mR,mf] r.fs)≤br r.fs:=dL _ _;have e1:Es.length=12:=rfl;have e2:Il.length=8:=rfl;have e3:br []=0:=rfl;unfold vI;rw[b7,b7,ez];simp only;split;·rw[ez];simp only[Nb,Nf];omega
 ·omega
theorem qh (r:eL)(peer ser:Int)(mir:Bool)(h:br r.fs≤10000000)(hb:r.body.length≤100000000)(hp:fT peer)(hs:fT ser):ay (CG G) 207 [gu r,.i .i64 peer,.i .i64 ser,.b mir] [gu (oB r peer ser mir)]:=by
 have hz:=dE r.fs;have l1:=bv (n:=peer) hp.2;have c1:=woH r.fs [mR,mf] (by omega) (fun f hf=>by have:=eu hf;omega) (by simp) (by decide);have h2:br (ga [mR,mf] r.fs)≤br r.fs:=dL _ _;have c2:=gw peer hp;have c3:=gw ser hs;have c4:=En {r with fs:=ga [mR,mf] r.fs} (aY 10 peer) (by show br (ga [mR,mf] r.fs)≤_;omega) hb (by omega);have h3:=sY (ga [mR,mf] r.fs) r.fr r.body.length (aY 10 peer) (by omega) (by omega);have h4:=dE (kr (ga [mR,mf] r.fs) r.fr r.body.length (aY 10 peer));unfold oB vI;unfold bP at c1;simp only at c4;generalize kr (ga [mR,mf] r.fs) r.fr r.body.length (aY 10 peer)=w at*;generalize ga [mR,mf] r.fs=u at*;unfold gu dF at*;simp only at*;refine mD 34 Tryz.func207 ?_;refine aT (ak [] c1 ?_ ?_);·exact aF
 refine ah c2 ?_;refine aT (ak [] c4 ?_ ?_);·exact aF
 repeat'(first|refine ad ?_|refine dk ?_|refine ah (c3) ?_|refine ae (fun _=>?_) (fun _=>?_)|refine aq ?_)
 refine aB (by simp;omega) ?_;repeat'(first|refine ad ?_|refine dk ?_|refine ae (fun _=>?_) (fun _=>?_)|refine aq ?_)
 refine gG (fun hm=>?_) (fun hm=>?_)
 ·rw[if_pos hm];refine aB (by simp;omega) ?_;repeat'(first|refine ad ?_|refine dk ?_|refine ae (fun _=>?_) (fun _=>?_)|refine aq ?_)
  refine aN ?_;simp[aL,Es,Il]
 ·rw[if_neg (by rw[hm];decide)];repeat'(first|refine ad ?_|refine dk ?_|refine ae (fun _=>?_) (fun _=>?_)|refine aq ?_)
  refine aN ?_;simp[aL,Es]
def oS (cookie:List UInt8)(x:Rte)(e:Bool):List bB:=(if x.new then[([83,101,116,45,67,111,111,107,105,101],cookie++[61]++x.id++[59,32,80,97,116,104,61,47,59,32,72,116,116,112,79,110,108,121])] else[])++f8 e
noncomputable def rF (cookie:List UInt8)(x:Rte)(m:List UInt8)(a:iZ)(size:Int)(e:Bool):iZ:=wH m a size (oS cookie x e)
theorem tq (cookie:List UInt8)(x:Rte)(e:Bool):br (oS cookie x e)≤cookie.length+x.id.length+70:=by
 have h1:br (f8 e)≤16:=by cases e<;>decide
 have h0:br []=0:=rfl;unfold oS;rw[b7];split;·rw[ez];simp only[Na,Nb,Nf];omega
 ·omega
theorem xy (cookie:List UInt8)(x:Rte)(m:List UInt8)(a:iZ)(size:Int)(e:Bool)(hs:size≤9223372036854775807):br (rF cookie x m a size e).fs≤4*br a.fs+cookie.length+x.id.length+140:=by have h1:=tq cookie x e;have h2:=FT a.fs (oS cookie x e);have h3:=DB m a size hs;unfold rF wH;show br (Gj a.fs (oS cookie x e)++wx m a size)≤_;rw[b7];omega
theorem A2 (c:bk)(x:Rte)(m:List UInt8)(a:iZ)(size:Int)(e:Bool)(h:br a.fs≤10000000)(hs:fT size)(hc:c.cookie.length≤1000)(hx:x.id.length≤1000):ay (CG G) 145 [di c,.agg [.i .i64 x.cls,.s x.id,.b x.new],.s m,eF a,.i .i64 size,.b e] [eF (rF c.cookie x m a size e)]:=by
 have c1:=LI c.cookie x.id (by omega) (by omega);have c2:=yA e;have h1:=tq c.cookie x e;have c3:=backR m a size (oS c.cookie x e) h (by omega) hs;have hcl:(f8 e).length≤1:=by cases e<;>decide
 have hcm:((f8 e).map aL).length=(f8 e).length:=by simp
 unfold rF;generalize wH m a size (oS c.cookie x e)=r at*;unfold oS at c3;unfold aL at c1;unfold di bi eF bU at*;generalize f8 e=cl at*;refine ay.mk (n:=32) Tryz.func145 rfl rfl rfl (Nat.le_of_ble_eq_true rfl) (ad ?_);refine gG (fun hn=>?_) (fun hn=>?_)
 ·rw[if_pos hn] at c3;repeat'(first|refine ad ?_|refine dk ?_|refine ah (c1) ?_|refine ae (fun _=>?_) (fun _=>?_)|refine aq ?_)
  refine aB (by simp) ?_;repeat'(first|refine ad ?_|refine dk ?_|refine ah (c2) ?_|refine ae (fun _=>?_) (fun _=>?_)|refine aq ?_)
  refine aB (by simp;omega) ?_;rw[Ng] at c3;refine ah c3 ?_;repeat'(first|refine ad ?_|refine dk ?_|refine ae (fun _=>?_) (fun _=>?_)|refine aq ?_)
  rfl
 ·rw[if_neg (by rw[hn];decide),List.nil_append] at c3;repeat'(first|refine ad ?_|refine dk ?_|refine ah (c2) ?_|refine ae (fun _=>?_) (fun _=>?_)|refine aq ?_)
  refine aB (by simp;omega) (ah c3 ?_);repeat'(first|refine ad ?_|refine dk ?_|refine ae (fun _=>?_) (fun _=>?_)|refine aq ?_)
  rfl
end Go.Proofs.YtgfdbddglhblbaaGreat
namespace Go.Proofs.YtgfdbddglhblbaaGreat
open Go.Eng
set_option maxRecDepth 100000
abbrev Nm:=List UInt8
theorem nm_tr {a b c:Nm}(h:a<b)(h':b<c):a<c:=List.lt_trans h h'
theorem nm_as {a b:Nm}(h:¬a<b)(h':¬b<a):a=b:=List.le_antisymm h' h
theorem LV (a b:Nm):a<b∨a=b∨b<a:=by
 by_cases h:a<b;·exact .inl h
 ·by_cases h':b<a;·exact .inr (.inr h')
  ·exact .inr (.inl (nm_as h h'))
def ml:List Nm→Nm→List Nm|[],s=>[s]|x::r,s=>if x<s then x::ml r s else if x=s then x::r else s::x::r
def Asc (l:List Nm):Prop:=l.Pairwise (·<·)
theorem By {l:List Nm}{s x:Nm}:x∈ml l s↔x=s∨x∈l:=by induction l with|nil=>simp[ml];|cons y r ih=>
 unfold ml;split
 ·simp only[List.mem_cons,ih];constructor;·rintro(h|h|h)<;>simp[h]
  ·rintro(h|h|h)<;>simp[h]
 ·split;·rename_i h;subst h;simp
  ·simp
theorem Jn {l:List Nm}(h:Asc l)(s:Nm):Asc (ml l s):=by induction l with|nil=>simp[ml,Asc];|cons y r ih=>
 obtain⟨h1,h2⟩:=List.pairwise_cons.1 h;unfold ml;split
 ·rename_i hy;refine List.pairwise_cons.2 ⟨fun x hx=>?_,ih h2⟩;rcases By.1 hx with rfl|hx;·exact hy
  ·exact h1 x hx
 ·rename_i hy;split;·exact h
  ·rename_i hne;have hsy:s<y:=by
    rcases LV s y with h|h|h;·exact h
    ·exact absurd h.symm hne
    ·exact absurd h hy
   refine List.pairwise_cons.2 ⟨fun x hx=>?_,h⟩;rcases List.mem_cons.1 hx with rfl|hx;·exact hsy
   ·exact nm_tr hsy (h1 x hx)
theorem Ij (l:List Nm)(s:Nm):(ml l s).length≤l.length+1:=by induction l with|nil=>simp[ml];|cons y r ih=>
 unfold ml;split;·simp only[Nb];omega
 ·split<;>simp
def NI (p:List Nm):List Nm:=p.foldl ml []
theorem qF (p:List Nm)(s:Nm):NI (p++[s])=ml (NI p) s:=by simp[NI,List.foldl_append]
theorem zX (p:List Nm):∀(a:List Nm),Asc a→Asc (p.foldl ml a)∧∀x,x∈p.foldl ml a↔x∈a∨x∈p:=by induction p with|nil=>intro a h;exact⟨h,by simp⟩;|cons y r ih=>
 intro a h;obtain⟨h1,h2⟩:=ih (ml a y) (Jn h y);refine⟨h1,fun x=>?_⟩;rw[List.foldl_cons,h2,By,List.mem_cons];constructor;·rintro((h|h)|h)<;>simp[h]
 ·rintro(h|h|h)<;>simp[h]
theorem CS {p:List Nm}{x:Nm}:x∈NI p↔x∈p:=by have:=(zX p [] List.Pairwise.nil).2 x;simpa[NI] using this
theorem iO (p:List Nm):(NI p).length≤p.length:=by
 have:∀(p a:List Nm),(p.foldl ml a).length≤a.length+p.length:=by intro p;induction p with|nil=>intro a;simp;|cons y r ih=>intro a;have h1:=ih (ml a y);have h2:=Ij a y;simp only[List.foldl_cons,Nb];omega
 simpa[NI] using this p []
def lC (n:Nm)(p:List bB):List (List UInt8):=(p.filter fun f=>decide (f.1=n)).map (·.2)
theorem CO (n:Nm)(p:List bB):(lC n p).length≤p.length:=by unfold lC;rw[Nl];exact NC _ _
def Fd:List UInt8:=[44,32]
def LZ (p:List bB)(n:Nm):bB:=(n,bF (lC n p) Fd)
def qd (p:List bB):List bB:=(NI (p.map (·.1))).map (LZ p)
def sq (k:List bB):List bB:=k.map fun f=>(bY f.1,f.2)
def viaN:List UInt8:=[86,105,97]
def J8:List UInt8:=[68,97,116,101]
def fJ (l:List bB)(ign:List (List UInt8)):List bB:=ga (viaN::J8::ign) (bw l)
def kF (l:List bB)(ign:List (List UInt8)):List bB:=qd (sq (fJ l ign))
end Go.Proofs.YtgfdbddglhblbaaGreat
namespace Go.Proofs.YtgfdbddglhblbaaGreat
open Go.Eng
attribute [local irreducible] aO
set_option maxRecDepth 100000
def jT (k:List bB):List Nm:=k.map (·.1)
structure FOk (l:List bB)(ign:List Nm):Prop where
 len:l.length≤1000000
 nm:∀f,f∈l→f.1.length≤140737488355328
 sum:aX (aM gQ l)≤4294967295
 els:∀e,e∈cJ (aM gQ l)→e.length≤140737488355328
 ilen:ign.length≤999990
 inm:∀n,n∈ign→n.length≤140737488355328
 join:∀n,(bF (lC n (sq (fJ l ign))) Fd).length≤140737488355328
theorem mQ {ns:List Nm}{l:List bB}{f:bB}(h:f∈ga ns l):f∈l:=(List.mem_filter.1 h).1
theorem BM (l:List bB):br (sq l)=br l:=by unfold br sq;rw[List.map_map];congr 1;refine List.map_congr_left fun f _=>?_;simp[bY]
theorem FOk.small {l:List bB}{ign:List Nm}(h0:l.length≤1000000)(h:br l≤2000000000)(h1:ign.length≤999990)(h2:∀n,n∈ign→n.length≤140737488355328):FOk l ign:=by
 have hk:br (fJ l ign)≤br l:=Nat.le_trans (dL _ _) (dL _ _);refine⟨h0,fun f hf=>by have:=eu hf;omega,?_,fun e he=>?_,h1,h2,fun n=>?_⟩;·have:=cK (cv gQ) l;unfold aM;omega
 ·have:=nk he;have:=cK (cv gQ) l;unfold aM at*;omega
 ·have h3:=li (lC n (sq (fJ l ign))) Fd (by decide);have h4:=cK (fun f=>decide (f.1=n)) (sq (fJ l ign));rw[BM] at h4;unfold lC at*;omega
theorem xk {s:Nm}:∀{a:List Nm},(∀x,x∈a→x<s)→∀b,ml (a++b) s=a++ml b s|[],_,b=>rfl|x::r,h,b=>by rw[List.cons_append,List.cons_append,ml,if_pos (h x (by simp)),xk (fun y hy=>h y (by simp[hy])) b]
theorem xE (a b:List UInt8):Op.bytesLess a b=decide (a<b):=Go.Proofs.bytesLess_eq a b
theorem EG (l:List Nm)(s:Nm)(hl:l.length≤1000000):ay (CG G) 192 [bP l,.s s] [bP (ml l s)]:=by
 have hlen:(l.map D.s).length=l.length:=by simp
 unfold bP;refine ay.mk (n:=45) Tryz.func192 rfl rfl rfl (Nat.le_of_ble_eq_true rfl) (ad ?_);apply aA (fun i:Nat=>i≤l.length∧∀x,x∈l.take i→x<s) (fun i=>⟨[(0,.d (.sl 1 (l.map .s))),(1,.d (.s s)),(5,dI (i:Int))],[],2⟩) (fun i=>l.length-i) 0 ⟨Nat.zero_le _,fun x hx=>by simp at hx⟩ [];·exact aF
 ·rintro i ⟨hi,hp⟩;have hsk:=xk hp (l.drop i);rw[NB] at hsk;refine ad ?_;refine ae (fun h1=>?_) (fun h1=>?_)
  ·have hi':i<l.length:=by omega
   have sF:l.drop i=l[i]::l.drop (i+1):=Ny hi';refine ao i rfl (bt hi') ?_;by_cases hlt:l[i]<s
   ·refine bE true (by rw[xE];exact decide_eq_true hlt) (ar ⟨by omega,by omega⟩ ?_);apply aG (i+1) [] ⟨by omega,fun x hx=>by
     rw[Nh hi'] at hx;rcases Np.1 hx with hx|hx;·exact hp x hx
     ·simp at hx;subst hx;exact hlt⟩ (by omega);exact aF
   ·refine bE false (by rw[xE];exact decide_eq_false hlt) (ad (aj (by omega) (ao i rfl (bt hi') ?_)));by_cases he:l[i]=s;·refine bE true (decide_eq_true he) (fW ?_);rw[hsk,sF,ml,if_neg hlt,if_pos he,←sF,NB]
    ·refine bE false (decide_eq_false he) (bnd i rfl (by omega) (aB (by simp;omega) (aB (by simp;omega) (bnd i rfl (by omega) (aB (by simp;omega) (dk (fW ?_)))))));rw[hsk,sF,ml,if_neg hlt,if_neg he,←sF];simp
  ·obtain rfl:i=l.length:=by omega
   refine ad (ai (by omega) (bnd l.length rfl (by omega) (aB (by simp;omega) (aB (by simp;omega) (bnd l.length rfl (by omega) (aB (by simp;omega) (dk (fW ?_))))))));rw[hsk,←hlen,List.drop_length,ND,hlen,ND,List.drop_length];simp[ml]
theorem LS (l:List bB)(hl:l.length≤1000000):ay (CG G) 227 [.sl 2 (l.map aL)] [bP (NI (jT l))]:=by
 have hlen:(l.map aL).length=l.length:=by simp
 have hnl:(jT l).length=l.length:=Nl _;refine ay.mk (n:=19) Tryz.func227 rfl rfl rfl (Nat.le_of_ble_eq_true rfl) (ad ?_);apply aA (fun i:Nat=>i≤l.length) (fun i=>⟨[(0,.d (.sl 2 (l.map aL))),(3,.d (.sl 1 ((NI ((jT l).take i)).map .s))),(4,dI (i:Int))],[],2⟩) (fun i=>l.length-i) 0 (Nat.zero_le _) [];·exact aF
 ·intro i hi;refine ad ?_;refine ae (fun h1=>?_) (fun h1=>?_)
  ·have hi':i<l.length:=by omega
   have hdl:=iO ((jT l).take i);have htl:((jT l).take i).length≤i:=by rw[Nj];omega
   have c:=EG (NI ((jT l).take i)) l[i].1 (by omega);have hs:(jT l).take (i+1)=(jT l).take i++[l[i].1]:=by rw[Nh (by omega)];simp[jT]
   rw[←qF,←hs] at c;unfold bP at c;refine ad (ao i rfl (gq hi') (ah c (ar ⟨by omega,by omega⟩ ?_)));apply aG (i+1) [] (by omega) (by omega);exact aF
  ·obtain rfl:i=l.length:=by omega
   rw[Nt (by omega)];rfl
theorem Jd (s:Nm):bY (bY s)=bY s:=by
 unfold bY;rw[List.map_map];refine List.map_congr_left fun c _=>?_;show NQ (NQ c)=NQ c;unfold NQ;by_cases h:65≤c.toNat∧c.toNat≤90;·rw[if_pos h,if_neg];rw[UInt8.toNat_ofNat'];omega
 ·rw[if_neg h,if_neg h]
theorem C2 (n:Nm)(k:List bB):lC (bY n) (sq k)=aM n k:=by unfold lC sq aM cv;rw[List.filter_map,List.map_map];rfl
theorem Jp (a b:List Nm)(l:List bB):ga a (ga b l)=ga (b++a) l:=by unfold ga iy;rw[List.filter_filter];congr 1;funext f;rw[List.any_append];cases (b.any fun n=>cv n f)<;>simp
def AL:List (List UInt8):=[[118,105,97],[100,97,116,101]]
theorem GA (l:List bB)(ign:List Nm):ga ign (ga AL (bw l))=fJ l ign:=by rw[Jp];unfold fJ;refine AN ?_ _;rw[Ng,show AL.map bY=[viaN,J8].map bY by decide];rfl
theorem Kb (l:List bB)(ign:List Nm)(h:FOk l ign):ay (CG G) 154 [.sl 2 (l.map aL),bP ign] [.sl 2 ((kF l ign).map aL)]:=by
 have hlen:=h.len;have hil:=h.ilen;have c1:=vZ l (by omega) h.nm h.sum h.els;have hsl:(bw l).length≤l.length:=m9 _ _;have c2:=Ls (bw l) AL (by omega) (fun f hf=>h.nm f (mQ hf)) (by decide) (by decide);have hvl:(ga AL (bw l)).length≤(bw l).length:=m9 _ _;have c3:=Ls (ga AL (bw l)) ign (by omega) (fun f hf=>h.nm f (mQ (mQ hf))) (by omega) h.inm;rw[GA] at c3;have hkl:(fJ l ign).length≤l.length:=Nat.le_trans (m9 _ _) hsl;have hkm:∀f,f∈fJ l ign→f.1.length≤140737488355328:=fun f hf=>h.nm f (mQ (mQ hf));have hj:=h.join;unfold kF qd;generalize ga AL (bw l)=x2 at c2 c3;generalize bw l=x1 at c1 c2;generalize fJ l ign=k at c3 hkl hkm hj⊢;have hpn:(sq k).map (·.1)=k.map fun f=>bY f.1:=by unfold sq;rw[List.map_map];rfl
 have hnl:(k.map fun f=>bY f.1).length=k.length:=Nl _;have hdl:=iO (k.map fun f=>bY f.1);rw[hpn];have hklen:(k.map aL).length=k.length:=by simp
 have hmem:∀n,n∈NI (k.map fun f=>bY f.1)→∃f∈k,n=bY f.1:=fun n hn=>by obtain⟨f,hf,rfl⟩:=List.mem_map.1 (CS.1 hn);exact⟨f,hf,rfl⟩
 generalize hN:NI (k.map fun f=>bY f.1)=N at hmem hdl;have hNl:(N.map D.s).length=N.length:=by simp
 unfold bP AL at*;refine ay.mk (n:=52) Tryz.func154 rfl rfl rfl (Nat.le_of_ble_eq_true rfl) (ah c1 (ah c2 (ah c3 (ad ?_))));apply aA (fun i:Nat=>i≤k.length) (fun i=>⟨[(5,.d (.sl 2 (k.map aL))),(6,.d (.sl 1 ((NI ((k.map fun f=>bY f.1).take i)).map .s))),(7,dI (i:Int))],[],2⟩) (fun i=>k.length-i) 0 (Nat.zero_le _) [];·exact aF
 ·intro i hi;refine ad ?_;refine ae (fun h1=>?_) (fun h1=>?_)
  ·have hi':i<k.length:=by omega
   have hdl2:=iO ((k.map fun f=>bY f.1).take i);have htl:((k.map fun f=>bY f.1).take i).length≤i:=by rw[Nj];omega
   have cl:=LC k[i].1 (hkm _ (Nr hi'));have c:=EG (NI ((k.map fun f=>bY f.1).take i)) (bY k[i].1) (by omega);have hs:(k.map fun f=>bY f.1).take (i+1)=(k.map fun f=>bY f.1).take i++[bY k[i].1]:=by rw[Nh (by omega)];simp
   rw[←qF,←hs] at c;unfold bP at c;refine ad (ao i rfl (gq hi') (ah cl (ah c (ar ⟨by omega,by omega⟩ ?_))));apply aG (i+1) [] (by omega) (by omega);exact aF
  ·obtain rfl:i=k.length:=by omega
   rw[Nt (by omega),hN];refine ad ?_;apply aA (fun i:Nat=>i≤N.length) (fun i=>⟨[(5,.d (.sl 2 (k.map aL))),(6,.d (.sl 1 (N.map .s))),(8,.os 16),(9,dI (i:Int))],[(16,some (.buf 2 (((N.take i).map (LZ (sq k))).map aL)))],2⟩) (fun i=>N.length-i) 0 (Nat.zero_le _) [(16,_)];·exact aF
   ·intro i hi;refine ad ?_;refine ae (fun h1=>?_) (fun h1=>?_)
    ·have hi':i<N.length:=by omega
     obtain⟨f,hf,he⟩:=hmem _ (Nr hi');have hv:=oQ k N[i] (by omega) (by rw[he];unfold bY;rw[Nl];exact hkm f hf) hkm;have hvv:aM N[i] k=lC N[i] (sq k):=by rw[he,←C2,Jd]
     rw[hvv] at hv;have hvl:=CO N[i] (sq k);have hpl:(sq k).length=k.length:=Nl _;have cj:=uM (lC N[i] (sq k)) Fd (by omega) (hj _);unfold bP Fd at*;refine ad (ao i rfl (bt hi') (ao i rfl (bt hi') (ah hv (ah cj (aB (by simp;omega) (dk (ar ⟨by omega,by omega⟩ ?_)))))));apply aG (i+1) [(16,_)] (by omega) (by omega);((repeat' constructor)<;>(first|refine aI ?_|rfl)<;>first|exact oT|skip);all_goals (rw[Nh hi',Ng,Ng];rfl)
    ·obtain rfl:i=N.length:=by omega
     rw[Nt (Nat.le_refl _)];rfl
def jH (st:Int)(fs:List bB)(sz:Int)(sum:List UInt8):D:=.agg [.i .i64 st,.sl 2 (fs.map aL),.i .i64 sz,.sl 1 (aD sum)]
def kx:List bB→Nm→Nm×Bool|[],_=>([],false)|f::l,n=>if f.1=n then(f.2,true) else kx l n
theorem H3 {l:List bB}{n:Nm}{i:Nat}(h:i<l.length):kx (l.drop i) n=if l[i].1=n then(l[i].2,true) else kx (l.drop (i+1)) n:=by rw[Ny h];rfl
theorem BP (l:List bB)(n:Nm)(h:l.length≤9223372036854775807):ay (CG G) 228 [.sl 2 (l.map aL),.s n] [.s (kx l n).1,.b (kx l n).2]:=by
 have hl:(l.map aL).length=l.length:=by simp
 refine ay.mk (n:=25) Tryz.func228 rfl rfl rfl (Nat.le_of_ble_eq_true rfl) (ad ?_);apply aA (fun i:Nat=>i≤l.length∧kx l n=kx (l.drop i) n) (fun i=>⟨[(0,.d (.sl 2 (l.map aL))),(1,.d (.s n)),(6,dI (i:Int))],[],2⟩) (fun i=>l.length-i) 0 ⟨by omega,rfl⟩ [];·exact aF
 ·rintro i ⟨hi,he⟩;refine ad ?_;refine ae (fun h1=>?_) (fun h1=>?_)
  ·have hi':i<l.length:=by omega
   rw[H3 hi'] at he;refine ad (ao i rfl (x:=aL l[i]) (by simp[hi']) ?_);by_cases h2:l[i].1=n;·refine bE true (decide_eq_true h2) (ao i rfl (x:=aL l[i]) (by simp[hi']) (fW ?_));rw[he,if_pos h2]
   ·refine bE false (decide_eq_false h2) (ar ⟨by omega,by omega⟩ ?_);rw[if_neg h2] at he;apply aG (i+1) [] ⟨by omega,he⟩ (by omega);exact aF
  ·obtain rfl:i=l.length:=by omega
   refine fW ?_;rw[he,List.drop_length];rfl
structure Sn where
 st:Int
 fs:List bB
 sz:Int
 sum:List UInt8
def zg (s:Sn):D:=jH s.st s.fs s.sz s.sum
def pF (a b:List bB)(n:Nm):Bool:=decide (kx a n≠kx b n)
def yn (a b:Sn):Bool:=decide (a.sz≠b.sz)||decide (a.sum≠b.sum)
def qQ (a b:List bB):List Nm:=(NI (jT (a++b))).filter (pF a b)
def MQ (a b:Sn):D:=pe (decide (a.st≠b.st)) (yn a b) (qQ a.fs b.fs)
theorem dp {p:Nm→Bool}{l:List Nm}{i:Nat}(h:i<l.length)(hp:p l[i]=true):(l.take (i+1)).filter p=(l.take i).filter p++[l[i]]:=by rw[Nh h,List.filter_append];simp[hp]
theorem gH {p:Nm→Bool}{l:List Nm}{i:Nat}(h:i<l.length)(hp:p l[i]=false):(l.take (i+1)).filter p=(l.take i).filter p:=by rw[Nh h,List.filter_append];simp[hp]
theorem yI {a b:List bB}{n x y:Nm}{u v:Bool}(h1:kx a n=(x,u))(h2:kx b n=(y,v)):pF a b n=(decide (u≠v)||decide (x≠y)):=by unfold pF;rw[h1,h2];by_cases hu:u=v<;>by_cases hx:x=y<;>simp[hu,hx]
def fN (fa fb:List bB)(sa za sb zbq:Int)(ua ub:List UInt8)(bb:Bool)(z:List Nm)(i:Nat):AS:=⟨[(2,.op 16 0 0),(3,.op 17 0 0),(4,.op 18 0 0),(5,.op 19 0 0),(6,.d (.sl 1 (z.map .s))),(7,dI (i:Int))],[(16,some (.box [dI sa,.d (.sl 2 (fa.map aL)),dI za,.d (.sl 1 (aD ua))])),(17,some (.box [dI sb,.d (.sl 2 (fb.map aL)),dI zbq,.d (.sl 1 (aD ub))])),(18,some (.box [.d (.b false),.d (.b false),.nl 1])),(19,some (.box [.d (.b (decide (sa≠sb))),.d (.b bb),.os 20])),(20,some (.buf 1 (((z.take i).filter (pF fa fb)).map .s)))],2⟩
theorem Di (a b:Sn)(ha:a.fs.length≤400000)(hb:b.fs.length≤400000):ay (CG G) 195 [zg a,zg b] [MQ a b]:=by
 obtain⟨sa,fa,za,ua⟩:=a;obtain⟨sb,fb,zbq,ub⟩:=b;simp only at ha hb;have cn:=LS (fa++fb) (by simp;omega);have hdl:=iO (jT (fa++fb));have hnl:(jT (fa++fb)).length≤800000:=by unfold jT;rw[Nl,Na];omega
 have hva:=fun n=>BP fa n (by omega);have hvb:=fun n=>BP fb n (by omega);have hfa:(fa.map aL).length=fa.length:=by simp
 have hfb:(fb.map aL).length=fb.length:=by simp
 rw[Ng] at cn;unfold MQ qQ yn zg pe bP;simp only;generalize NI (jT (fa++fb))=z at*;have hzl:(z.map D.s).length=z.length:=by simp
 have hfl:=fun i=>NC (pF fa fb) (z.take i);have fin:∀t:Bool,t=(decide (za≠zbq)||decide (ua≠ub))→t=(decide (za≠zbq)||decide (ua≠ub)):=fun _ h=>h;unfold bP at*;unfold jH at*;refine ay.mk (n:=84) Tryz.func195 rfl rfl rfl (Nat.le_of_ble_eq_true rfl) (bE (decide (sa≠sb)) (by simp) ?_);by_cases hz:za=zbq
 ·refine bE false (by simp[hz]) (cy ua rfl (cy ub rfl ?_));by_cases hu:ua=ub
  ·refine bE false (by simp[hu]) ?_;have hbb:false=(decide (za≠zbq)||decide (ua≠ub)):=(by simp[hz,hu]);refine aB (by simp;omega) (aB (by simp;omega) (ah cn (dk (ad ?_))));apply aA (fun i:Nat=>i≤z.length) (fN fa fb sa za sb zbq ua ub false z) (fun i=>z.length-i) 0 (Nat.zero_le _) [(16,_),(17,_),(18,_),(19,_),(20,14)];·simp only[fN];((repeat' constructor)<;>(first|refine aI ?_|rfl)<;>first|exact oT|skip);all_goals first|rfl|(simp;done)
   ·intro i hi;simp only[fN];refine ad ?_;refine ae (fun h1=>?_) (fun h1=>?_)
    ·have hi':i<z.length:=by omega
     have c1:=hva z[i];have c2:=hvb z[i];generalize hx:kx fa z[i]=px at c1;generalize hy:kx fb z[i]=py at c2;obtain⟨x,u⟩:=px;obtain⟨y,v⟩:=py;have hq0:=yI hx hy;simp only at c1 c2;refine ad (ao i rfl (bt hi') (ah c1 (dk (ao i rfl (bt hi') (ah c2 (dk ?_))))));cases u<;>cases v
     ·refine bE false rfl ?_;by_cases hxy:x=y
      ·have hq:pF fa fb z[i]=false:=by rw[hq0];simp[hxy]
       refine bE false (by simp[hxy]) (ar ⟨by omega,by omega⟩ ?_);apply aG (i+1) [(16,_),(17,_),(18,_),(19,_),(20,_)] (by omega) (by omega);simp only[fN,gH hi' hq];exact aF
      ·have hq:pF fa fb z[i]=true:=by rw[hq0];simp[hxy]
       refine bE true (by simp[hxy]) (ao i rfl (bt hi') (aB (by have:=hfl i;have:=List.length_take_le i z;simp only[Nl,Nb,Nf];omega) (dk (ar ⟨by omega,by omega⟩ ?_))));apply aG (i+1) [(16,_),(17,_),(18,_),(19,_),(20,_)] (by omega) (by omega);simp only[fN,dp hi' hq];((repeat' constructor)<;>(first|refine aI ?_|rfl)<;>first|exact oT|skip);all_goals simp
     ·have hq:pF fa fb z[i]=true:=by rw[hq0];simp
      refine bE true rfl (ao i rfl (bt hi') (aB (by have:=hfl i;have:=List.length_take_le i z;simp only[Nl,Nb,Nf];omega) (dk (ar ⟨by omega,by omega⟩ ?_))));apply aG (i+1) [(16,_),(17,_),(18,_),(19,_),(20,_)] (by omega) (by omega);simp only[fN,dp hi' hq];((repeat' constructor)<;>(first|refine aI ?_|rfl)<;>first|exact oT|skip);all_goals simp
     ·have hq:pF fa fb z[i]=true:=by rw[hq0];simp
      refine bE true rfl (ao i rfl (bt hi') (aB (by have:=hfl i;have:=List.length_take_le i z;simp only[Nl,Nb,Nf];omega) (dk (ar ⟨by omega,by omega⟩ ?_))));apply aG (i+1) [(16,_),(17,_),(18,_),(19,_),(20,_)] (by omega) (by omega);simp only[fN,dp hi' hq];((repeat' constructor)<;>(first|refine aI ?_|rfl)<;>first|exact oT|skip);all_goals simp
     ·refine bE false rfl ?_;by_cases hxy:x=y
      ·have hq:pF fa fb z[i]=false:=by rw[hq0];simp[hxy]
       refine bE false (by simp[hxy]) (ar ⟨by omega,by omega⟩ ?_);apply aG (i+1) [(16,_),(17,_),(18,_),(19,_),(20,_)] (by omega) (by omega);simp only[fN,gH hi' hq];exact aF
      ·have hq:pF fa fb z[i]=true:=by rw[hq0];simp[hxy]
       refine bE true (by simp[hxy]) (ao i rfl (bt hi') (aB (by have:=hfl i;have:=List.length_take_le i z;simp only[Nl,Nb,Nf];omega) (dk (ar ⟨by omega,by omega⟩ ?_))));apply aG (i+1) [(16,_),(17,_),(18,_),(19,_),(20,_)] (by omega) (by omega);simp only[fN,dp hi' hq];((repeat' constructor)<;>(first|refine aI ?_|rfl)<;>first|exact oT|skip);all_goals simp
    ·obtain rfl:i=z.length:=by omega
     rw[ND];refine fW ?_;rw[←hbb]
  ·refine bE true (by simp[hu]) ?_;have hbb:true=(decide (za≠zbq)||decide (ua≠ub)):=(by simp[hu]);refine aB (by simp;omega) (aB (by simp;omega) (ah cn (dk (ad ?_))));apply aA (fun i:Nat=>i≤z.length) (fN fa fb sa za sb zbq ua ub true z) (fun i=>z.length-i) 0 (Nat.zero_le _) [(16,_),(17,_),(18,_),(19,_),(20,14)];·simp only[fN];((repeat' constructor)<;>(first|refine aI ?_|rfl)<;>first|exact oT|skip);all_goals first|rfl|(simp;done)
   ·intro i hi;simp only[fN];refine ad ?_;refine ae (fun h1=>?_) (fun h1=>?_)
    ·have hi':i<z.length:=by omega
     have c1:=hva z[i];have c2:=hvb z[i];generalize hx:kx fa z[i]=px at c1;generalize hy:kx fb z[i]=py at c2;obtain⟨x,u⟩:=px;obtain⟨y,v⟩:=py;have hq0:=yI hx hy;simp only at c1 c2;refine ad (ao i rfl (bt hi') (ah c1 (dk (ao i rfl (bt hi') (ah c2 (dk ?_))))));cases u<;>cases v
     ·refine bE false rfl ?_;by_cases hxy:x=y
      ·have hq:pF fa fb z[i]=false:=by rw[hq0];simp[hxy]
       refine bE false (by simp[hxy]) (ar ⟨by omega,by omega⟩ ?_);apply aG (i+1) [(16,_),(17,_),(18,_),(19,_),(20,_)] (by omega) (by omega);simp only[fN,gH hi' hq];exact aF
      ·have hq:pF fa fb z[i]=true:=by rw[hq0];simp[hxy]
       refine bE true (by simp[hxy]) (ao i rfl (bt hi') (aB (by have:=hfl i;have:=List.length_take_le i z;simp only[Nl,Nb,Nf];omega) (dk (ar ⟨by omega,by omega⟩ ?_))));apply aG (i+1) [(16,_),(17,_),(18,_),(19,_),(20,_)] (by omega) (by omega);simp only[fN,dp hi' hq];((repeat' constructor)<;>(first|refine aI ?_|rfl)<;>first|exact oT|skip);all_goals simp
     ·have hq:pF fa fb z[i]=true:=by rw[hq0];simp
      refine bE true rfl (ao i rfl (bt hi') (aB (by have:=hfl i;have:=List.length_take_le i z;simp only[Nl,Nb,Nf];omega) (dk (ar ⟨by omega,by omega⟩ ?_))));apply aG (i+1) [(16,_),(17,_),(18,_),(19,_),(20,_)] (by omega) (by omega);simp only[fN,dp hi' hq];((repeat' constructor)<;>(first|refine aI ?_|rfl)<;>first|exact oT|skip);all_goals simp
     ·have hq:pF fa fb z[i]=true:=by rw[hq0];simp
      refine bE true rfl (ao i rfl (bt hi') (aB (by have:=hfl i;have:=List.length_take_le i z;simp only[Nl,Nb,Nf];omega) (dk (ar ⟨by omega,by omega⟩ ?_))));apply aG (i+1) [(16,_),(17,_),(18,_),(19,_),(20,_)] (by omega) (by omega);simp only[fN,dp hi' hq];((repeat' constructor)<;>(first|refine aI ?_|rfl)<;>first|exact oT|skip);all_goals simp
     ·refine bE false rfl ?_;by_cases hxy:x=y
      ·have hq:pF fa fb z[i]=false:=by rw[hq0];simp[hxy]
       refine bE false (by simp[hxy]) (ar ⟨by omega,by omega⟩ ?_);apply aG (i+1) [(16,_),(17,_),(18,_),(19,_),(20,_)] (by omega) (by omega);simp only[fN,gH hi' hq];exact aF
      ·have hq:pF fa fb z[i]=true:=by rw[hq0];simp[hxy]
       refine bE true (by simp[hxy]) (ao i rfl (bt hi') (aB (by have:=hfl i;have:=List.length_take_le i z;simp only[Nl,Nb,Nf];omega) (dk (ar ⟨by omega,by omega⟩ ?_))));apply aG (i+1) [(16,_),(17,_),(18,_),(19,_),(20,_)] (by omega) (by omega);simp only[fN,dp hi' hq];((repeat' constructor)<;>(first|refine aI ?_|rfl)<;>first|exact oT|skip);all_goals simp
    ·obtain rfl:i=z.length:=by omega
     rw[ND];refine fW ?_;rw[←hbb]
 ·refine bE true (by simp[hz]) ?_;have hbb:true=(decide (za≠zbq)||decide (ua≠ub)):=(by simp[hz]);refine aB (by simp;omega) (aB (by simp;omega) (ah cn (dk (ad ?_))));apply aA (fun i:Nat=>i≤z.length) (fN fa fb sa za sb zbq ua ub true z) (fun i=>z.length-i) 0 (Nat.zero_le _) [(16,_),(17,_),(18,_),(19,_),(20,14)];·simp only[fN];((repeat' constructor)<;>(first|refine aI ?_|rfl)<;>first|exact oT|skip);all_goals first|rfl|(simp;done)
  ·intro i hi;simp only[fN];refine ad ?_;refine ae (fun h1=>?_) (fun h1=>?_)
   ·have hi':i<z.length:=by omega
    have c1:=hva z[i];have c2:=hvb z[i];generalize hx:kx fa z[i]=px at c1;generalize hy:kx fb z[i]=py at c2;obtain⟨x,u⟩:=px;obtain⟨y,v⟩:=py;have hq0:=yI hx hy;simp only at c1 c2;refine ad (ao i rfl (bt hi') (ah c1 (dk (ao i rfl (bt hi') (ah c2 (dk ?_))))));cases u<;>cases v
    ·refine bE false rfl ?_;by_cases hxy:x=y
     ·have hq:pF fa fb z[i]=false:=by rw[hq0];simp[hxy]
      refine bE false (by simp[hxy]) (ar ⟨by omega,by omega⟩ ?_);apply aG (i+1) [(16,_),(17,_),(18,_),(19,_),(20,_)] (by omega) (by omega);simp only[fN,gH hi' hq];exact aF
     ·have hq:pF fa fb z[i]=true:=by rw[hq0];simp[hxy]
      refine bE true (by simp[hxy]) (ao i rfl (bt hi') (aB (by have:=hfl i;have:=List.length_take_le i z;simp only[Nl,Nb,Nf];omega) (dk (ar ⟨by omega,by omega⟩ ?_))));apply aG (i+1) [(16,_),(17,_),(18,_),(19,_),(20,_)] (by omega) (by omega);simp only[fN,dp hi' hq];((repeat' constructor)<;>(first|refine aI ?_|rfl)<;>first|exact oT|skip);all_goals simp
    ·have hq:pF fa fb z[i]=true:=by rw[hq0];simp
     refine bE true rfl (ao i rfl (bt hi') (aB (by have:=hfl i;have:=List.length_take_le i z;simp only[Nl,Nb,Nf];omega) (dk (ar ⟨by omega,by omega⟩ ?_))));apply aG (i+1) [(16,_),(17,_),(18,_),(19,_),(20,_)] (by omega) (by omega);simp only[fN,dp hi' hq];((repeat' constructor)<;>(first|refine aI ?_|rfl)<;>first|exact oT|skip);all_goals simp
    ·have hq:pF fa fb z[i]=true:=by rw[hq0];simp
     refine bE true rfl (ao i rfl (bt hi') (aB (by have:=hfl i;have:=List.length_take_le i z;simp only[Nl,Nb,Nf];omega) (dk (ar ⟨by omega,by omega⟩ ?_))));apply aG (i+1) [(16,_),(17,_),(18,_),(19,_),(20,_)] (by omega) (by omega);simp only[fN,dp hi' hq];((repeat' constructor)<;>(first|refine aI ?_|rfl)<;>first|exact oT|skip);all_goals simp
    ·refine bE false rfl ?_;by_cases hxy:x=y
     ·have hq:pF fa fb z[i]=false:=by rw[hq0];simp[hxy]
      refine bE false (by simp[hxy]) (ar ⟨by omega,by omega⟩ ?_);apply aG (i+1) [(16,_),(17,_),(18,_),(19,_),(20,_)] (by omega) (by omega);simp only[fN,gH hi' hq];exact aF
     ·have hq:pF fa fb z[i]=true:=by rw[hq0];simp[hxy]
      refine bE true (by simp[hxy]) (ao i rfl (bt hi') (aB (by have:=hfl i;have:=List.length_take_le i z;simp only[Nl,Nb,Nf];omega) (dk (ar ⟨by omega,by omega⟩ ?_))));apply aG (i+1) [(16,_),(17,_),(18,_),(19,_),(20,_)] (by omega) (by omega);simp only[fN,dp hi' hq];((repeat' constructor)<;>(first|refine aI ?_|rfl)<;>first|exact oT|skip);all_goals simp
   ·obtain rfl:i=z.length:=by omega
    rw[ND];refine fW ?_;rw[←hbb]
end Go.Proofs.YtgfdbddglhblbaaGreat
