/- A part of the proof of what is stated of the erasing of a mirror. -/
import Derived.Test.YtgfdbddglhblbaaGreatQax
import Derived.Test.YtgfdbddglhblbaaGreatQau
set_option maxHeartbeats 64000000
namespace Go.Proofs.YtgfdbddglhblbaaGreat
open Go.Eng
attribute [local irreducible] aO
set_option maxRecDepth 100000
structure cX.Gx (j:cX):Prop where
 gd:j.Gd
 exc:0≤j.exc∧j.exc≤1000000000
structure bz.V (s:bz):Prop where
 pool:ib s.pool
 idl:s.pool.id=[]jl:(s.jobs.length:Int)≤s.pool.se
 jobs:∀j,j∈s.jobs→j.Gx
 rep:s.rep.Ok
 cap:s.rep.cap≤5
 fit:∀x,x∈s.rep.l→o9 x
theorem bz.V.sm {s:bz}(h:s.V):s.Sm:=⟨h.pool,by have:=h.jl;have:=h.pool.se;omega,h.rep⟩
theorem bz.V.j {s:bz}(h:s.V):s.J:=⟨h.sm,fun j hj=>(h.jobs j hj).gd⟩
theorem cX.zero_gx:cX.zero.Gx:=⟨⟨cH.zero_q,dm.zero_g,by decide,⟨by decide,by decide⟩,⟨by decide,by decide⟩⟩,by decide⟩
theorem bz.V.at {s:bz}(h:s.V)(k:Nat):(s.at k).Gx:=by
 unfold bz.at;by_cases hk:k<s.jobs.length;·simp only[List.getD_eq_getElem?_getD,No hk,Option.getD_some];exact h.jobs _ (Nr hk)
 ·simp only[List.getD_eq_getElem?_getD,List.getElem?_eq_none (Nat.le_of_not_lt hk),Option.getD_none];exact cX.zero_gx
theorem bz.V.set {s:bz}(h:s.V)(k:Nat){j:cX}(hj:j.Gx):(s.set k j).V:=by
 refine⟨h.pool,h.idl,by show((s.jobs.set k j).length:Int)≤_;rw[List.length_set];exact h.jl,fun x hx=>?_,h.rep,h.cap,h.fit⟩;rcases List.mem_or_eq_of_mem_set hx with hx|rfl;·exact h.jobs x hx
 ·exact hj
theorem cX.Gx.off {j:cX}(h:j.Gx):j.off.Gx:=⟨⟨cH.zero_q,dm.zero_g,h.gd.dg,h.gd.sh,h.gd.pr⟩,h.exc⟩
theorem Ib {p:Po}(h:p.id=[])(n:Int):(eZ p n).1.id=[]∧(eZ p n).1.se=p.se:=by
 unfold eZ;split;·exact⟨h,rfl⟩
 ·split;·simp[h]
  ·exact⟨h,rfl⟩
theorem bz.V.hang {s:bz}(h:s.V)(k:Nat){j:cX}(hj:j.Gx):(s.hang k j).V:=by
 unfold bz.hang;split;·exact h
 ·obtain⟨h1,h2⟩:=Ib h.idl j.conn;refine⟨pC h.pool _,h1,?_,fun x hx=>?_,h.rep,h.cap,h.fit⟩;·simp only[List.length_set,h2];exact h.jl
  ·rcases List.mem_or_eq_of_mem_set hx with hx|rfl;·exact h.jobs x hx
   ·exact hj.off
theorem bz.V.fin {s:bz}(h:s.V)(k:Nat){exc rea:Int}{a b:Bool}{f:List Nm}(he:0≤exc∧exc≤1000000000)(hr:0≤rea∧rea≤100)(hf:aX f≤1048576):(s.fin k exc rea a b f).V:=by
 refine⟨h.pool,h.idl,?_,fun x hx=>?_,D7.add_ok h.rep _ _ _ _ _,h.cap,fun x hx=>?_⟩;·have:=h.jl;show((s.jobs.take k++s.jobs.drop (k+1)).length:Int)≤_;rw[Na,Nj,Nz];show _≤s.pool.se;omega
 ·rcases Np.1 hx with hx|hx;·exact h.jobs x (List.mem_of_mem_take hx)
  ·exact h.jobs x (List.mem_of_mem_drop hx)
 ·have hx:x∈s.rep.l++[_]:=List.mem_of_mem_drop hx;rcases Np.1 hx with hx|hx;·exact h.fit x hx
  ·obtain rfl:=Nx.1 hx;have hs:=u0 h.rep.ser;refine⟨?_,?_,?_,hf⟩;·exact⟨by simp only;omega,by simp only;omega⟩
   ·exact⟨by simp only;omega,by simp only;omega⟩
   ·exact⟨by simp only;omega,by simp only;omega⟩
theorem bz.V.endJ {s:bz}(h:s.V)(k:Nat){j:cX}(hj:j.Gx){rea:Int}(hr:0≤rea∧rea≤100):(s.endJ k j rea).V:=(h.hang k hj).fin k hj.exc hr (by decide)
theorem Dy (a b:List bB):aX (qQ a b)≤aX (a.map (·.1))+aX (b.map (·.1)):=by
 have h1:=tD (jT (a++b)) [];have h2:aX (jT (a++b))=aX (a.map (·.1))+aX (b.map (·.1)):=by simp[jT,aX]
 have h3:∀(p:Nm→Bool)(l:List Nm),aX (l.filter p)≤aX l:=by intro p l;induction l with|nil=>simp[aX];|cons x l ih=>
  simp only[List.filter_cons];split;·simp only[aX,Nw,List.sum_cons] at*;omega
  ·simp only[aX,Nw,List.sum_cons] at*;omega
 have h4:=h3 (pF a b) (NI (jT (a++b)));have h0:aX []=0:=rfl;unfold qQ;unfold NI at*;omega
theorem bz.V.cmp {s:bz}(h:s.V)(k:Nat){j:cX}(hj:j.Gx):(s.cmp k j).V:=by
 unfold bz.cmp;split;·refine h.fin k hj.exc (by decide) ?_;have h1:=Dy j.pr.fs j.sh.fs;have h2:=hj.gd.pr.nms;have h3:=hj.gd.sh.nms;omega
 ·exact h
theorem cnF_v {s:bz}(h:s.V)(id:Int):(cnF s id).V:=by
 unfold cnF;split;·exact h
 ·rename_i k _;have:=h.at k;exact h.set k ⟨⟨this.gd.po,this.gd.rd,this.gd.dg,this.gd.sh,this.gd.pr⟩,this.exc⟩
theorem rfF_v {s:bz}(h:s.V)(id:Int):(E0 s id).1.V:=by
 unfold E0;split;·exact h
 ·split;·exact h
  ·exact h.endJ _ (h.at _) (by decide)
theorem gnF_v {s:bz}(h:s.V)(id:Int):(ES s id).1.V:=by
 unfold ES;split;·exact h
 ·exact h.endJ _ (h.at _) (by decide)
theorem GI (p:cH)(n:Int):0≤(p.gb n).bud∧(p.gb n).bud≤1000000:=by show 0≤iT (max 1000000 0) [p.bud,n] 0∧iT (max 1000000 0) [p.bud,n] 0≤1000000;simp only[iT];omega
theorem u9 {p:cH}(h:p.Q)(n:Int):(p.grant n).Q:=by
 have hb:=GI p n;have ho:=p.out.ok_iff.1 h.out;refine⟨h.inn,h.icap,?_,?_⟩;·show(Qu.mk p.out.cap (p.out.dat.drop _)).ok=true;rw[Qu.ok_iff];simp only[Nz];omega
 ·show 0≤(p.gb n).bud-((p.gb n).fl p.out.dat:Int)∧_;unfold cH.fl cH.grant cH.flush cH.fl;simp only;omega
theorem bgF_v {s:bz}(h:s.V)(id n:Int):(CZ s id n).1.V:=by
 unfold CZ;split;·exact h
 ·rename_i k _;split;·have:=h.at k;exact h.set k ⟨⟨u9 this.gd.po n,this.gd.rd,this.gd.dg,this.gd.sh,this.gd.pr⟩,this.exc⟩
  ·exact h
theorem cX.Gx.got {j:cX}(h:j.Gx)(ign:List (List UInt8)):(j.got ign).Gx:=⟨⟨h.gd.po,h.gd.rd,h.gd.dg,wj h.gd.rd.ann h.gd.rd.an ign _ _,h.gd.pr⟩,h.exc⟩
theorem cX.Gx.cut {j:cX}(h:j.Gx):j.cut.Gx:=by
 unfold cX.cut;split;·exact h
 ·exact h.off
theorem Kk {s:bz}(h:s.V)(k:Nat){j:cX}(hj:j.Gx)(ign:List (List UInt8)):(yU s k j ign).1.V:=((h.set k (hj.got ign)).hang k (hj.got ign)).cmp k (hj.got ign).cut
theorem ndF_v {s:bz}(h:s.V)(c:bk)(id:Int):(EK s c id).1.V:=by
 unfold EK;split;·exact h
 ·split;·exact h
  ·split;·exact Kk h _ (h.at _) _
   ·exact h.endJ _ (h.at _) (by decide)
theorem prF_v {s:bz}(h:s.V)(e:Int){sn:Sn}(hsn:sn.Gd)(cm:Bool):(yH s e sn cm).1.V:=by
 unfold yH;split;·exact h
 ·rename_i k _;split;·exact h.endJ _ (h.at _) (by decide)
  ·have:=h.at k;have hg:((s.at k).prim sn).Gx:=⟨⟨this.gd.po,this.gd.rd,this.gd.dg,this.gd.sh,hsn⟩,this.exc⟩;exact(h.set k hg).cmp k hg
theorem zo (lim:Int):∀(n k:Nat)(s:bz)(out:List bC),s.V→(mn lim n k s out).1.V
 |0,_,_,_,h=>h|n+1,k,s,out,h=>by
  unfold mn;split;·exact zo lim n _ s out h
  ·exact zo lim n _ _ _ (h.endJ _ (h.at _) (by decide))
theorem tkF_v {s:bz}(h:s.V)(lim:Int):(D5 s lim).1.V:=zo lim _ _ _ _ h
theorem fP {α:Type}{f:α→Nat}:∀{l:List α}(b:Nat),(∀x,x∈l→f x≤b)→(l.map f).sum≤l.length*b|[],b,_=>by simp;|x::l,b,h=>by have h1:=h x (by simp);have h2:=fP (l:=l) b fun y hy=>h y (by simp[hy]);simp only[Nw,List.sum_cons,Nb,Nat.add_mul,Nat.one_mul];omega
def MF {α:Type}(p:α→Bool)(l:List α):Nat:=(l.takeWhile p).length
theorem Aj {α:Type}(p:α→Bool):∀(l:List α)(i:Nat),i≤l.length→(∀(j:Nat)(h:j<l.length),j<i→p l[j]=true)→(∀h:i<l.length,p l[i]=false)→MF p l=i|[],i,h,_,_=>by simp at h;simp[MF,h];|a::l,0,_,_,h3=>by have:=h3 (by simp);simp only[List.getElem_cons_zero] at this;simp[MF,this];|a::l,i+1,h,h2,h3=>by have h0:=h2 0 (by simp) (by omega);simp only[List.getElem_cons_zero] at h0;have:=Aj p l i (by simpa using h) (fun j hj hji=>by have:=h2 (j+1) (by simpa using hj) (by omega);simpa using this) (fun hi=>by have:=h3 (by simpa using hi);simpa using this);unfold MF at*;simp[h0,this]
theorem Aq {α:Type}(p:α→Bool)(l:List α):MF p l≤l.length:=(List.takeWhile_sublist p).length_le
def dig0:vW:=⟨DT,0,[]⟩
def pK (c:bk)(exc now id:Int)(m rq:List UInt8):cX:=⟨exc,id,now,false,{rx id c.cin c.tee with out:=(oi c.tee).put rq},rL m,dig0,false,false,.zero,.zero⟩
def mM (s:bz)(exc:Int):Nat:=MF (fun j:cX=>decide (j.exc<exc)) s.jobs
def CI (s:bz)(c:bk)(exc now:Int)(m rq:List UInt8):bz×List bC:=if c.tee<(fL s.jobs:Int)+(rq.length:Int) then({s with rep:=s.rep.add exc 2 false false []},[])else match fZ s.pool with|none=>({s with rep:=s.rep.add exc 3 false false []},[])|some (p,id,_)=>(⟨p,s.jobs.take (mM s exc)++[pK c exc now id m rq]++s.jobs.drop (mM s exc),s.rep⟩,[⟨2,id,6,0,[]⟩])
theorem Mr (s:bz)(c:bk)(exc now:Int)(m rq:List UInt8)(h:s.V)(hc:c.Ok)(hrq:rq.length≤100000000):ay (CG G) 208 [bJ s,di c,.i .i64 exc,.i .i64 now,.s m,.sl 1 (aD rq)] [bJ (CI s c exc now m rq).1,bS (CI s c exc now m rq).2]:=by
 have hjl:=h.sm.jobs;have hol:fL s.jobs≤1000000000000000:=by have h1:=fP (f:=fun j:cX=>j.po.out.dat.length) (l:=s.jobs) 1000000 (fun j hj=>(h.jobs j hj).gd.po.ol);unfold fL;omega
 have c1:=Eo s hol hjl;have c2:=Mh s.rep exc 2 false false [] h.rep;have c3:=Mh s.rep exc 3 false false [] h.rep;have c4:=tY s.pool h.pool;have htee:=hc.tee;have hrl:=aK rq;have hml:(s.jobs.map bI).length=s.jobs.length:=by simp
 unfold CI;by_cases h1:c.tee<(fL s.jobs:Int)+(rq.length:Int)
 ·rw[if_pos h1];unfold di bi bJ aZ bS lz o6 pe at*;refine mD 113 Tryz.func208 ?_;repeat'(first|refine ad ?_|refine dk ?_|refine ah (c1) ?_|refine ah (c2) ?_|refine aj (by omega) ?_|refine ae (fun _=>?_) (fun _=>?_)|refine aq ?_)
  rfl
 ·rw[if_neg h1];cases ha:fZ s.pool with
  |none=>
   rw[ha] at c4;simp only[As] at c4;unfold di bi bJ aZ bS lz o6 pe o8 at*;refine ay.mk (n:=113) Tryz.func208 rfl rfl rfl (Nat.le_of_ble_eq_true rfl) (ad (ah c1 ?_));repeat'(first|refine ad ?_|refine dk ?_|refine ah (c3) ?_|refine ah (c4) ?_|refine ai (by omega) ?_|refine aj (by decide) ?_|refine ae (fun _=>?_) (fun _=>?_)|refine aq ?_)
   rfl;|some q=>
   obtain⟨p,id,fr⟩:=q;rw[ha] at c4;simp only[As] at c4;have c5:=rU id c.cin c.tee;have c6:=tn m;have c7:=wQ;have c8:=Kh (oi c.tee) rq (by omega);unfold di bi bJ aZ bS lz o6 pe o8 Mu at*;simp only[];refine ay.mk (n:=113) Tryz.func208 rfl rfl rfl (Nat.le_of_ble_eq_true rfl) (ad (ah c1 ?_));repeat'(first|refine ad ?_|refine dk ?_|refine ah (c4) ?_|refine ah (c5) ?_|refine ah (c6) ?_|refine ah (c7) ?_|refine ah (c8) ?_|refine ai (by omega) ?_|refine ai (by decide) ?_|refine ae (fun _=>?_) (fun _=>?_)|refine aq ?_)
   generalize hjn:pK c exc now id m rq=jn;have hix:mM s exc≤s.jobs.length:=Aq _ _;apply aA (fun i:Nat=>i≤s.jobs.length∧∀(j:Nat)(h:j<s.jobs.length),j<i→decide (s.jobs[j].exc<exc)=true) (fun i=>⟨[(2,dI exc),(6,.op 16 0 0),(12,.op 17 0 0),(15,dI id),(18,.op 18 0 0),(19,dI (i:Int))],[(16,some (.box [dI p.ba,dI p.qu,dI p.se,.d (.sl 1 (p.id.map (.i .i64))),.d (.sl 1 (p.bu.map (.i .i64))),.d (.sl 55 (s.jobs.map bI)),dI s.rep.cap,dI s.rep.ser,.d (.sl 6 (s.rep.l.map NH))])),(17,some (.box [dI 0,dI 0,dI 0,.d (.sl 1 []),.d (.sl 1 []),.d (.sl 55 []),dI 0,dI 0,.d (.sl 6 [])])),(18,some (.box [dI jn.exc,dI jn.conn,dI jn.born,.d (.b jn.opn),dI jn.po.id,dI jn.po.cls,dI jn.po.inn.cap,.d (.sl 1 (aD jn.po.inn.dat)),dI jn.po.out.cap,.d (.sl 1 (aD jn.po.out.dat)),dI jn.po.bud,.d (.b jn.po.ended),.d (.b jn.po.closing),.d (.b jn.rd.rep),.d (.s jn.rd.meth),dI jn.rd.ph,.d (.s jn.rd.rq.m),.d (.s jn.rd.rq.t),dI jn.rd.rq.mi,.d (.sl 2 (jn.rd.rq.fs.map aL)),.d (.b jn.rd.rq.fr),.d (.sl 1 (aD jn.rd.rq.body)),dI jn.rd.an.st,.d (.s jn.rd.an.rs),dI jn.rd.an.mi,.d (.sl 2 (jn.rd.an.fs.map aL)),.d (.sl 1 (aD jn.rd.an.body)),dI jn.rd.fm.kd,dI jn.rd.fm.len,dI jn.rd.lf,dI jn.rd.sz,dI jn.rd.ck.ph,dI jn.rd.ck.lf,dI jn.rd.ck.tr,.d (.sl 1 (aD jn.rd.ck.ln)),.d (.i .u32 jn.dg.s.x0),.d (.i .u32 jn.dg.s.x1),.d (.i .u32 jn.dg.s.x2),.d (.i .u32 jn.dg.s.x3),.d (.i .u32 jn.dg.s.x4),.d (.i .u32 jn.dg.s.x5),.d (.i .u32 jn.dg.s.x6),.d (.i .u32 jn.dg.s.x7),dI jn.dg.n,.d (.sl 1 (aD jn.dg.t)),.d (.b jn.hs),.d (.b jn.hp),dI jn.sh.st,.d (.sl 2 (jn.sh.fs.map aL)),dI jn.sh.sz,.d (.sl 1 (aD jn.sh.sum)),dI jn.pr.st,.d (.sl 2 (jn.pr.fs.map aL)),dI jn.pr.sz,.d (.sl 1 (aD jn.pr.sum))]))],3⟩) (fun i=>s.jobs.length-i) 0 ⟨Nat.zero_le _,fun j _ hj=>by omega⟩ [(16,_),(17,_),(18,_)];·subst hjn;exact aF
   ·rintro i ⟨hi,hn⟩;have exit:(∀h:i<s.jobs.length,decide (s.jobs[i].exc<exc)=false)→mM s exc=i:=fun hh=>Aj _ _ _ hi hn hh;refine ad ?_;refine ae (fun h1=>?_) (fun h1=>?_)
    ·have hi':i<s.jobs.length:=by omega
     refine ao i rfl (j7 hi') ?_;refine ae (fun h2=>?_) (fun h2=>?_)
     ·repeat'(first|refine ad ?_|refine dk ?_|refine ae (fun _=>?_) (fun _=>?_)|refine aq ?_)
      apply aG (i+1) [(16,_),(17,_),(18,_)] ⟨by omega,fun j h hj=>by
       by_cases hji:j<i;·exact hn j h hji
       ·obtain rfl:j=i:=by omega
        exact decide_eq_true h2⟩ (by omega);exact aF
     ·rw[exit fun _=>decide_eq_false h2];repeat'(first|refine ad ?_|refine dk ?_|refine bnd i rfl (by omega) ?_|refine aB (by simp;omega) ?_|refine ae (fun _=>?_) (fun _=>?_)|refine aq ?_)
      simp only[Ng,List.map_take,List.map_drop];rfl
    ·rw[exit fun h=>absurd h (by omega)];repeat'(first|refine ad ?_|refine dk ?_|refine bnd i rfl (by omega) ?_|refine aB (by simp;omega) ?_|refine ae (fun _=>?_) (fun _=>?_)|refine aq ?_)
     simp only[Ng,List.map_take,List.map_drop];rfl
def cX.nx (j:cX)(x:jQ):cX:={j with rd:=x.r,po:=j.po.eat x.n,dg:=j.dg.add x.dat}
noncomputable def o7 (s:bz)(c:bk)(k:Nat)(l:List bC):Nat→cX→bz×List bC|0,j=>(s.set k j,l)|n+1,j=>if(dH j.rd j.po.inn.dat c.maxHead c.maxReply 1000000).e≠0 then((s.set k j).endJ k j 5,l++dS j false)else if(dH j.rd j.po.inn.dat c.maxHead c.maxReply 1000000).k=3 then((yU (s.set k (j.nx (dH j.rd j.po.inn.dat c.maxHead c.maxReply 1000000))) k (j.nx (dH j.rd j.po.inn.dat c.maxHead c.maxReply 1000000)) c.ignore).1,l++(yU (s.set k (j.nx (dH j.rd j.po.inn.dat c.maxHead c.maxReply 1000000))) k (j.nx (dH j.rd j.po.inn.dat c.maxHead c.maxReply 1000000)) c.ignore).2)else if(dH j.rd j.po.inn.dat c.maxHead c.maxReply 1000000).k=0∧(dH j.rd j.po.inn.dat c.maxHead c.maxReply 1000000).n=0 then(s.set k (j.nx (dH j.rd j.po.inn.dat c.maxHead c.maxReply 1000000)),l)else o7 s c k l n (j.nx (dH j.rd j.po.inn.dat c.maxHead c.maxReply 1000000))
def cX.off1 (j:cX)(b:List UInt8):cX:={j with po:=(j.po.offer b).1}
noncomputable def F0 (s:bz)(c:bk)(id:Int)(b:List UInt8):bz×List bC:=match jt s.jobs id with|none=>(s,[])|some k=>if(s.at k).opn then o7 s c k [⟨1,id,0,(((s.at k).po.offer b).2:Int),[]⟩] (((s.at k).po.offer b).1.inn.dat.length+1) ((s.at k).off1 b) else(s,[])
theorem FB {p:cH}(h:p.Q)(n:Int):(p.eat n).Q:=by have h1:=p.inn.ok_iff.1 h.inn;refine⟨?_,h.icap,h.out,h.bud⟩;show(p.inn.cut n).ok=true;rw[Qu.ok_iff];unfold Qu.cut;simp only[Nz];omega
theorem pn {p:cH}(h:p.Q)(b:List UInt8):(p.offer b).1.Q:=by
 have h1:=p.inn.ok_iff.1 h.inn;unfold cH.offer;split;·exact h
 ·refine⟨?_,h.icap,h.out,h.bud⟩;show(p.inn.put b).ok=true;rw[Qu.ok_iff];unfold Qu.put Qu.fits Qu.room;rw[if_pos h.inn];simp only[Na,Nj];omega
theorem pB {p:cH}(hp:p.Q)(n:Int)(h:0≤n)(hn:n≤(p.inn.dat.length:Int)):((p.eat n).inn.dat.length:Int)=(p.inn.dat.length:Int)-n:=by show((p.inn.dat.drop (p.inn.fst n)).length:Int)=_;unfold Qu.fst;rw[if_pos hp.inn,Nz];omega
theorem cX.Gx.nx {j:cX}(h:j.Gx){most body room:Int}(hb:0≤body∧body≤1000000):(j.nx (dH j.rd j.po.inn.dat most body room)).Gx:=by have p:=gM j.rd j.po.inn.dat most body room h.gd.rd h.gd.po.il hb;exact⟨⟨FB h.gd.po _,p.g,vW.add_t _ _,h.gd.sh,h.gd.pr⟩,h.exc⟩
theorem dataR (s:bz)(c:bk)(id:Int)(b:List UInt8)(h:s.V)(hc:c.Ok)(hb:b.length≤1000000):ay (CG G) 88 [bJ s,di c,.i .i64 id,.sl 1 (aD b)] [bJ (F0 s c id b).1,bS (F0 s c id b).2]:=by
 have hjl:=h.sm.jobs;have c1:=CR s id (by omega);have hml:(s.jobs.map bI).length=s.jobs.length:=by simp
 unfold F0;cases hj:jt s.jobs id with
 |none=>
 rw[hj,da] at c1;unfold di bi bJ aZ bS at*;refine mD 127 Tryz.func88 ?_;repeat'(first|refine ad ?_|refine dk ?_|refine ah (c1) ?_|refine aj (by decide) ?_|refine ae (fun _=>?_) (fun _=>?_)|refine aq ?_)
 rfl;|some k=>
 rw[hj,bj] at c1;obtain⟨hk,hlt,hcn,_⟩:=iU hj;have hg:(s.jobs.map bI)[k]?=some (bI (s.at k)):=by simp[hk]
 have hjg:=h.at k;have c2:=Av (s.at k).po b (by omega);have ho:=pn hjg.gd.po b;unfold bI kj at hg;cases hop:(s.at k).opn
 ·rw[hop] at hg;unfold di bi bJ aZ bS at*;refine mD 127 Tryz.func88 ?_;simp only[hop,Bool.false_eq_true,if_false];repeat'(first|refine ad ?_|refine dk ?_|refine ah (c1) ?_|refine ai (by omega) ?_|refine ao k rfl hg ?_|refine ae (fun _=>?_) (fun _=>?_)|refine aq ?_)
  rfl
 ·rw[hop] at hg;simp only[hop,if_true];generalize hl:([⟨1,id,0,(((s.at k).po.offer b).2:Int),[]⟩]:List bC)=l;have hj1:((s.at k).off1 b).Gx:=⟨⟨ho,hjg.gd.rd,hjg.gd.dg,hjg.gd.sh,hjg.gd.pr⟩,hjg.exc⟩;generalize hR:o7 s c k l (((s.at k).po.offer b).1.inn.dat.length+1) ((s.at k).off1 b)=R;unfold di bi bJ aZ bS ee bN at*;refine mD 127 Tryz.func88 ?_;repeat'(first|refine ad ?_|refine dk ?_|refine ah (c1) ?_|refine ah (c2) ?_|refine ai (by omega) ?_|refine ao k rfl hg ?_|refine ae (fun _=>?_) (fun _=>?_)|refine aq ?_)
  apply aA (fun x:Nat×cX=>x.2.Gx∧x.2.po.inn.dat.length+1≤x.1∧o7 s c k l x.1 x.2=R) (fun x=>⟨[(2,dI id),(4,.op 16 0 0),(5,.op 17 0 0),(8,.op 18 0 0),(10,dI (k:Int)),(11,.op 19 0 0),(13,.os 20)],[(16,some (.box [dI s.pool.ba,dI s.pool.qu,dI s.pool.se,.d (.sl 1 (s.pool.id.map (.i .i64))),.d (.sl 1 (s.pool.bu.map (.i .i64))),.d (.sl 55 (s.jobs.map bI)),dI s.rep.cap,dI s.rep.ser,.d (.sl 6 (s.rep.l.map NH))])),(17,some (.box [dI c.maxHead,dI c.maxBody,dI c.maxReply,dI c.cin,dI c.cout,dI c.clients,dI c.admins,dI c.listeners,dI c.stable,dI c.canary,dI c.shadow,dI c.tee,dI c.idle,dI c.reqd,dI c.shadd,dI c.reports,.d (.sl 1 (c.plan.ws.map (.i .i64))),dI c.plan.ms,dI c.plan.nu,dI c.plan.de,dI c.plan.ho,dI c.plan.wi,.d (.s c.salt),.d (.s c.cookie),.d (.b c.mirror),.d (.sl 1 (c.ignore.map .s))])),(18,some (.box [dI 0,dI 0,dI 0,.d (.sl 1 []),.d (.sl 1 []),.d (.sl 55 []),dI 0,dI 0,.d (.sl 6 [])])),(19,some (.box [dI x.2.exc,dI x.2.conn,dI x.2.born,.d (.b x.2.opn),dI x.2.po.id,dI x.2.po.cls,dI x.2.po.inn.cap,.d (.sl 1 (aD x.2.po.inn.dat)),dI x.2.po.out.cap,.d (.sl 1 (aD x.2.po.out.dat)),dI x.2.po.bud,.d (.b x.2.po.ended),.d (.b x.2.po.closing),.d (.b x.2.rd.rep),.d (.s x.2.rd.meth),dI x.2.rd.ph,.d (.s x.2.rd.rq.m),.d (.s x.2.rd.rq.t),dI x.2.rd.rq.mi,.d (.sl 2 (x.2.rd.rq.fs.map aL)),.d (.b x.2.rd.rq.fr),.d (.sl 1 (aD x.2.rd.rq.body)),dI x.2.rd.an.st,.d (.s x.2.rd.an.rs),dI x.2.rd.an.mi,.d (.sl 2 (x.2.rd.an.fs.map aL)),.d (.sl 1 (aD x.2.rd.an.body)),dI x.2.rd.fm.kd,dI x.2.rd.fm.len,dI x.2.rd.lf,dI x.2.rd.sz,dI x.2.rd.ck.ph,dI x.2.rd.ck.lf,dI x.2.rd.ck.tr,.d (.sl 1 (aD x.2.rd.ck.ln)),.d (.i .u32 x.2.dg.s.x0),.d (.i .u32 x.2.dg.s.x1),.d (.i .u32 x.2.dg.s.x2),.d (.i .u32 x.2.dg.s.x3),.d (.i .u32 x.2.dg.s.x4),.d (.i .u32 x.2.dg.s.x5),.d (.i .u32 x.2.dg.s.x6),.d (.i .u32 x.2.dg.s.x7),dI x.2.dg.n,.d (.sl 1 (aD x.2.dg.t)),.d (.b x.2.hs),.d (.b x.2.hp),dI x.2.sh.st,.d (.sl 2 (x.2.sh.fs.map aL)),dI x.2.sh.sz,.d (.sl 1 (aD x.2.sh.sum)),dI x.2.pr.st,.d (.sl 2 (x.2.pr.fs.map aL)),dI x.2.pr.sz,.d (.sl 1 (aD x.2.pr.sum))])),(20,some (.buf 5 (l.map bn)))],3⟩) (fun x=>x.1) (((s.at k).po.offer b).1.inn.dat.length+1,(s.at k).off1 b) ⟨hj1,Nat.le_refl _,hR⟩ [(16,_),(17,_),(18,_),(19,_),(20,_)];·subst hl;unfold cX.off1;((repeat' constructor)<;>(first|refine aI ?_|rfl)<;>first|exact oT|skip);all_goals (show D.b true=D.b (s.at k).opn;rw[hop])
  ·rintro⟨n,j⟩ ⟨hj,hn,hh⟩;simp only at hj hn hh;obtain⟨n,rfl⟩:∃m,n=m+1:=⟨n-1,by omega⟩;have hp:=gM j.rd j.po.inn.dat c.maxHead c.maxReply 1000000 hj.gd.rd hj.gd.po.il (by have:=hc.maxReply;omega);have c3:=EX j.rd j.po.inn.dat c.maxHead c.maxReply 1000000 (by have:=hj.gd.po.il;omega) hj.gd.rd.inn (by have:=hc.maxReply;omega) (by omega);have hx:=hj.nx (most:=c.maxHead) (body:=c.maxReply) (room:=1000000) (by have:=hc.maxReply;omega);rw[o7] at hh;generalize dH j.rd j.po.inn.dat c.maxHead c.maxReply 1000000=x at*;have hel:=pB hj.gd.po x.n hp.n.1 hp.n.2;have c4:=Mt j.po x.n (by have:=hj.gd.po.il;omega);have c5:=EE j.dg x.dat (by have:=hj.gd.dg;omega) (by have:=hp.dat;have:=hp.n.2;have:=hj.gd.po.il;omega);have c6:=zK s k j hlt (by omega);have c7:=s7 (s.set k j) k 5 false (h.set k hj).sm j (by show(s.jobs.set k j)[k]?=_;simp[hlt]);have c8:=zK s k (j.nx x) hlt (by omega);have c9:=GZ (s.set k (j.nx x)) c k (j.nx x) (h.set k hx).sm hc hx.gd (by show(s.jobs.set k _)[k]?=_;simp[hlt]);have hlen:(l.map bn).length=1:=by rw[←hl];rfl
   have hal1:=nU j false;have hal2:(yU (s.set k (j.nx x)) k (j.nx x) c.ignore).2.length≤1:=nU _ _;unfold jQ.ds at c3;by_cases he:x.e≠0
   ·rw[if_pos he] at hh;subst hh;have hm:((dS j false).map bn).length=(dS j false).length:=by simp
    generalize (s.set k j).endJ k j 5=u at*;generalize dS j false=ac at*;generalize s.set k j=v at*;simp only[bS,bJ,aZ,gr,bZ,bI,kj] at c3 c6 c7;repeat'(first|refine ad ?_|refine dk ?_|refine ah (c3) ?_|refine ah (c6) ?_|refine ah (c7) ?_|refine aj he ?_|refine aB (by omega) ?_|refine ae (fun _=>?_) (fun _=>?_)|refine aq ?_)
    simp only[Ng];rfl
   ·rw[if_neg he] at hh;have he0:x.e=0:=Nq.1 he;by_cases h3:x.k=3
    ·rw[if_pos h3] at hh;subst hh;have hm:((yU (s.set k (j.nx x)) k (j.nx x) c.ignore).2.map bn).length=(yU (s.set k (j.nx x)) k (j.nx x) c.ignore).2.length:=by simp
     generalize yU (s.set k (j.nx x)) k (j.nx x) c.ignore=u at*;generalize s.set k (j.nx x)=v at*;unfold cX.nx at*;simp only[bS,bJ,aZ,gr,bZ,bI,kj,ee,bN,di,bi] at c3 c4 c8 c9;repeat'(first|refine ad ?_|refine dk ?_|refine ah (c3) ?_|refine ah (c4) ?_|refine ah (c5) ?_|refine ah (c8) ?_|refine ah (c9) ?_|refine ai he ?_|refine aj h3 ?_|refine aB (by omega) ?_|refine ae (fun _=>?_) (fun _=>?_)|refine aq ?_)
     simp only[Ng];rfl
    ·rw[if_neg h3] at hh;by_cases h0:x.k=0
     ·by_cases hn0:x.n=0
      ·rw[if_pos ⟨h0,hn0⟩] at hh;subst hh;generalize s.set k (j.nx x)=v at*;unfold cX.nx at*;simp only[bS,bJ,aZ,gr,bZ,bI,kj,ee,bN,di,bi] at c3 c4 c8 c9;repeat'(first|refine ad ?_|refine dk ?_|refine ah (c3) ?_|refine ah (c4) ?_|refine ah (c5) ?_|refine ah (c8) ?_|refine ai he ?_|refine ai h3 ?_|refine aj h0 ?_|refine aj hn0 ?_|refine ae (fun _=>?_) (fun _=>?_)|refine aq ?_)
       rfl
      ·rw[if_neg (fun hh=>hn0 hh.2)] at hh;simp only[gr,bZ,ee,bN] at c3 c4;repeat'(first|refine ad ?_|refine dk ?_|refine ah (c3) ?_|refine ah (c4) ?_|refine ah (c5) ?_|refine ai he ?_|refine ai h3 ?_|refine aj h0 ?_|refine ai hn0 ?_|refine ae (fun _=>?_) (fun _=>?_)|refine aq ?_)
       apply aG (n,j.nx x) [(16,_),(17,_),(18,_),(19,_),(20,_)] ⟨hx,by show((j.po.eat x.n).inn.dat.length)+1≤n;have:=hp.n.1;omega,hh⟩ (by show n<n+1;omega);unfold cX.nx;exact aF
     ·rw[if_neg (fun hh=>h0 hh.1)] at hh;have hn1:1≤x.n:=by
       rcases hp.k with h|h|h|h|h;·exact absurd h h0
       ·have:=(hp.head he0 h).2.2;omega
       ·exact(hp.data he0 h).2.2
       ·exact absurd h h3
       ·have:=(hp.inter he0 h).2.2.1;omega
      simp only[gr,bZ,ee,bN] at c3 c4;repeat'(first|refine ad ?_|refine dk ?_|refine ah (c3) ?_|refine ah (c4) ?_|refine ah (c5) ?_|refine ai he ?_|refine ai h3 ?_|refine ai h0 ?_|refine ae (fun _=>?_) (fun _=>?_)|refine aq ?_)
      apply aG (n,j.nx x) [(16,_),(17,_),(18,_),(19,_),(20,_)] ⟨hx,by show((j.po.eat x.n).inn.dat.length)+1≤n;omega,hh⟩ (by show n<n+1;omega);unfold cX.nx;exact aF
theorem gX (j:cX)(g:Bool):(dS j g).length≤1∧∀a,a∈dS j g→a.b=[]:=by unfold dS;split<;>simp
theorem ra (id i o:Int)(hi:i≤100000):(rx id i o).Q:=by refine⟨wU _,?_,wU _,(by show(0:Int)≤0;decide),(by show(0:Int)≤1000000;decide)⟩;show min (max i 0) 1000000≤100000;omega
theorem Sn.zero_g0:Sn.zero.Gd:=⟨by decide,by decide⟩
theorem DY {c:bk}(hc:c.Ok){exc:Int}(he:0≤exc∧exc≤1000000000)(now id:Int)(m rq:List UInt8):(pK c exc now id m rq).Gx:=by have h:=ra id c.cin c.tee hc.cin.2;exact⟨⟨⟨h.inn,h.icap,Qu.put_ok h.out rq,h.bud⟩,w7 m,by show([]:List UInt8).length≤64;simp,Sn.zero_g0,Sn.zero_g0⟩,he⟩
theorem bnF_v {s:bz}(h:s.V){c:bk}(hc:c.Ok){exc:Int}(he:0≤exc∧exc≤1000000000)(now:Int)(m rq:List UInt8):(CI s c exc now m rq).1.V:=by
 have add:∀rea:Int,0≤rea∧rea≤100→bz.V {s with rep:=s.rep.add exc rea false false []}:=by
  intro rea hr;refine⟨h.pool,h.idl,h.jl,h.jobs,D7.add_ok h.rep _ _ _ _ _,h.cap,fun x hx=>?_⟩;have hx:x∈s.rep.l++[_]:=List.mem_of_mem_drop hx;rcases Np.1 hx with hx|hx;·exact h.fit x hx
  ·obtain rfl:=Nx.1 hx;have hs:=u0 h.rep.ser;refine⟨?_,?_,?_,by show aX []≤_;decide⟩;·exact⟨by simp only;omega,by simp only;omega⟩
   ·exact⟨by simp only;omega,by simp only;omega⟩
   ·exact⟨by simp only;omega,by simp only;omega⟩
 unfold CI;split;·exact add 2 (by decide)
 ·cases ha:fZ s.pool with|none=>exact add 3 (by decide);|some q=>
   obtain⟨p,id,fr⟩:=q;have hp:=(pg h.pool ha).1;have hse:p.id=[]∧p.se=s.pool.se+1:=by
    unfold fZ at ha;rw[h.idl] at ha;simp only at ha;split at ha;·cases ha;exact⟨rfl,rfl⟩
    ·cases ha
   have hk:=Aq (fun j:cX=>decide (j.exc<exc)) s.jobs;have hjl:=h.jl;refine⟨hp,hse.1,?_,fun j hj=>?_,h.rep,h.cap,h.fit⟩;·show((s.jobs.take (mM s exc)++[pK c exc now id m rq]++s.jobs.drop (mM s exc)).length:Int)≤p.se;rw[hse.2];simp only[Na,Nj,Nz,Nb,Nf];unfold mM;omega
   ·have hj:j∈s.jobs.take (mM s exc)++[pK c exc now id m rq]++s.jobs.drop (mM s exc):=hj;rcases Np.1 hj with hj|hj
    ·rcases Np.1 hj with hj|hj;·exact h.jobs j (List.mem_of_mem_take hj)
     ·obtain rfl:=Nx.1 hj;exact DY hc he now id m rq
    ·exact h.jobs j (List.mem_of_mem_drop hj)
theorem AM (s:bz)(c:bk)(exc now:Int)(m rq:List UInt8):(CI s c exc now m rq).2.length≤1∧∀a,a∈(CI s c exc now m rq).2→a.b=[]:=by
 unfold CI;split;·simp
 ·split<;>simp
theorem GF {s:bz}(h:s.V){c:bk}(hc:c.Ok)(k:Nat)(l:List bC):∀(n:Nat)(j:cX),j.Gx→(o7 s c k l n j).1.V
 |0,j,hj=>h.set k hj|n+1,j,hj=>by
  have hx:=hj.nx (most:=c.maxHead) (body:=c.maxReply) (room:=1000000) (by have:=hc.maxReply;omega);rw[o7];split;·exact(h.set k hj).endJ k hj (by decide)
  ·split;·exact Kk (h.set k hx) k hx c.ignore
   ·split;·exact h.set k hx
    ·exact GF h hc k l n _ hx
theorem dtF_v {s:bz}(h:s.V){c:bk}(hc:c.Ok)(id:Int)(b:List UInt8):(F0 s c id b).1.V:=by
 unfold F0;split;·exact h
 ·rename_i k _;split;·have hj:=h.at k;exact GF h hc k _ _ _ ⟨⟨pn hj.gd.po b,hj.gd.rd,hj.gd.dg,hj.gd.sh,hj.gd.pr⟩,hj.exc⟩
  ·exact h
theorem GS (s:bz)(k:Nat)(j:cX)(ign:List (List UInt8)):(yU s k j ign).2.length≤1∧∀a,a∈(yU s k j ign).2→a.b=[]:=gX _ _
theorem BI (s:bz)(c:bk)(k:Nat){l:List bC}(hl:l.length≤1)(hb:∀a,a∈l→a.b=[]):∀(n:Nat)(j:cX),(o7 s c k l n j).2.length≤2∧∀a,a∈(o7 s c k l n j).2→a.b=[]
 |0,j=>⟨by show l.length≤2;omega,hb⟩|n+1,j=>by
  have two:∀m:List bC,m.length≤1∧(∀a,a∈m→a.b=[])→(l++m).length≤2∧∀a,a∈l++m→a.b=[]:=by
   intro m hm;refine⟨by rw[Na];omega,fun a ha=>?_⟩;rcases Np.1 ha with ha|ha;·exact hb a ha
   ·exact hm.2 a ha
  rw[o7];split;·exact two _ (gX _ _)
  ·split;·exact two _ (GS _ _ _ _)
   ·split;·exact⟨by show l.length≤2;omega,hb⟩
    ·exact BI s c k hl hb n _
theorem LN (s:bz)(c:bk)(id:Int)(b:List UInt8):(F0 s c id b).2.length≤2∧∀a,a∈(F0 s c id b).2→a.b=[]:=by
 unfold F0;split;·simp
 ·split;·exact BI _ _ _ (by simp) (by simp) _ _
  ·simp
theorem Mj (s:bz)(c:bk)(id:Int):(EK s c id).2.length≤1∧∀a,a∈(EK s c id).2→a.b=[]:=by
 unfold EK;split;·simp
 ·split;·simp
  ·split;·exact GS _ _ _ _
   ·exact gX _ _
theorem Lo (s:bz)(id:Int):(E0 s id).2.length≤1∧∀a,a∈(E0 s id).2→a.b=[]:=by
 unfold E0;split;·simp
 ·split;·simp
  ·exact gX _ _
theorem Ms (s:bz)(id:Int):(ES s id).2.length≤1∧∀a,a∈(ES s id).2→a.b=[]:=by
 unfold ES;split;·simp
 ·exact gX _ _
theorem vo (lim:Int):∀(n k:Nat)(s:bz)(out:List bC),(∀a,a∈out→a.b=[])→(mn lim n k s out).2.length≤out.length+n∧∀a,a∈(mn lim n k s out).2→a.b=[]
 |0,_,_,_,h=>⟨Nat.le_refl _,h⟩|n+1,k,s,out,h=>by
  unfold mn;split;·have:=vo lim n (k+1) s out h;exact⟨by omega,this.2⟩
  ·have h1:=gX (s.at k) false;have:=vo lim n k (s.endJ k (s.at k) 6) (out++dS (s.at k) false) (fun a ha=>by
    rcases Np.1 ha with ha|ha;·exact h a ha
    ·exact h1.2 a ha);rw[Na] at this;exact⟨by omega,this.2⟩
theorem HA (s:bz)(lim:Int):(D5 s lim).2.length≤s.jobs.length∧∀a,a∈(D5 s lim).2→a.b=[]:=by have:=vo lim s.jobs.length 0 s [] (by simp);simpa[D5] using this
theorem Mm {s:bz}(h:s.V)(id n:Int):(CZ s id n).2.length≤1∧∀a,a∈(CZ s id n).2→a.b.length≤1000000:=by
 unfold CZ;split;·simp
 ·rename_i k _;split
  ·have:=(h.at k).gd.po.ol;split;·simp
   ·refine⟨by simp,fun a ha=>?_⟩;obtain rfl:=Nx.1 ha;show((s.at k).po.gsent n).length≤_;unfold cH.gsent;rw[Nj];omega
  ·simp
end Go.Proofs.YtgfdbddglhblbaaGreat
namespace Go.Proofs.YtgfdbddglhblbaaGreat
open Go.Eng
attribute [local irreducible] aO
set_option maxRecDepth 100000
def dl.zero:dl:=⟨0,0,0,0,0,[],false,.zero,false,false,false,.zero,[],0,.zero⟩
def Cl.zero:Cl:=⟨.zero,.zero,0,.zero⟩
def Up.zero:Up:=⟨.zero,false,0,.zero⟩
def Wd.cl (w:Wd)(k:Nat):Cl:=w.p.cls.getD k .zero
def Wd.up (w:Wd)(k:Nat):Up:=w.p.ups.getD k .zero
def Wd.setC (w:Wd)(k:Nat)(c:Cl):Wd:=⟨{w.p with cls:=w.p.cls.set k c},w.out⟩
def Wd.setU (w:Wd)(k:Nat)(u:Up):Wd:=⟨{w.p with ups:=w.p.ups.set k u},w.out⟩
def Wd.act (w:Wd)(l:List bC):Wd:=⟨w.p,w.out++l⟩
structure dl.Gd (x:dl):Prop where
 rq:br x.rq.fs≤100000
 rqn:x.rq.fs.length≤64
 rqm:x.rq.m.length≤100000
 rqt:x.rq.t.length≤100000
 an:br x.an.fs≤100000
 ann:x.an.fs.length≤64
 anr:x.an.rs.length≤100000
 size:0≤x.size∧x.size≤1000000
 store:(x.store.length:Int)≤x.size
 dg:x.dg.t.length≤64
 rid:x.rid.length≤1000
 ser:0≤x.ser∧x.ser≤1000000000
 born:0≤x.born∧x.born≤1000000000
structure Cl.Gd (c:Cl):Prop where
 po:c.po.Q
 rd:c.rd.G
 ex:c.ex.Gd
 body:(c.ex.rq.body.length:Int)≤c.rd.sz
 last:0≤c.last∧c.last≤1000000000
structure Up.Gd (u:Up):Prop where
 po:u.po.Q
 rd:u.rd.G
structure Wd.S (w:Wd):Prop where
 cfg:w.p.cfg.Ok
 now:0≤w.p.now∧w.p.now≤100000
 draw:fT w.p.draw
 ser:0≤w.p.ser∧w.p.ser≤1000000000
 ro:eo w.p.now w.p.cfg.plan.ws.length w.p.ro
 pl:1≤w.p.cfg.plan.ws.length
 cl:w.p.cls.length≤1000000
 ul:w.p.ups.length≤1000000
 cg:∀c,c∈w.p.cls→c.Gd
 ug:∀u,u∈w.p.ups→u.Gd
 sta:ib w.p.sta
 can:ib w.p.can
 sh:w.p.sh.V
def Wd.bo (w:Wd):Nat:=(w.out.map fun a=>a.b.length).sum
def Wd.bc (w:Wd):Nat:=(w.p.cls.map fun c=>c.po.bud.toNat).sum
def Wd.bu (w:Wd):Nat:=(w.p.ups.map fun u=>u.po.bud.toNat).sum
def Wd.phi (w:Wd):Nat:=w.bo+w.bc+w.bu
structure Wd.B (w:Wd)(n:Nat):Prop where
 lim:n≤10000000000
 ol:w.out.length≤n
 ph:w.phi≤60000000000
theorem AI {l:List Nat}{a:Nat}(h:a∈l):a≤l.sum:=by induction l with|nil=>cases h;|cons b l ih=>
 rcases List.mem_cons.1 h with rfl|h;·simp
 ·have:=ih h;simp;omega
theorem Wd.B.ob {w:Wd}{n:Nat}(h:w.B n):∀a,a∈w.out→a.b.length≤60000000000:=by intro a ha;have:=AI (List.mem_map_of_mem (f:=fun a:bC=>a.b.length) ha);have h2:=h.ph;unfold Wd.phi Wd.bo at h2;omega
theorem Wd.cl_mem {w:Wd}{k:Nat}(hk:k<w.p.cls.length):w.cl k∈w.p.cls:=by unfold Wd.cl;simp[hk]
theorem Wd.up_mem {w:Wd}{k:Nat}(hk:k<w.p.ups.length):w.up k∈w.p.ups:=by unfold Wd.up;simp[hk]
theorem Wd.get_cl {w:Wd}{k:Nat}(hk:k<w.p.cls.length):(w.p.cls.map dU)[k]?=some (dU (w.cl k)):=by unfold Wd.cl;simp[hk]
theorem Wd.get_up {w:Wd}{k:Nat}(hk:k<w.p.ups.length):(w.p.ups.map fo)[k]?=some (fo (w.up k)):=by unfold Wd.up;simp[hk]
theorem aQ (l:List Cl)(k:Nat)(c:Cl):(l.set k c).map dU=(l.map dU).set k (dU c):=List.map_set
theorem aP (l:List Up)(k:Nat)(u:Up):(l.set k u).map fo=(l.map fo).set k (fo u):=List.map_set
theorem aR {l:List Cl}{id:Int}{k:Nat}(h:bM l id=some k):k<l.length∧(l.getD k .zero).po.id=id:=by obtain⟨hi,he⟩:=Fc (f:=fun c:Cl=>c.po.id) h;exact⟨hi,by simpa[hi] using he⟩
theorem fE {l:List Up}{id:Int}{k:Nat}(h:im l id=some k):k<l.length∧(l.getD k .zero).po.id=id:=by obtain⟨hi,he⟩:=Fc (f:=fun c:Up=>c.po.id) h;exact⟨hi,by simpa[hi] using he⟩
def DH (l:List bC)(id:Int):Option Nat:=l.findIdx? fun a=>decide (a.kind=3)&&decide (a.conn=id)
def oq (l:List bC)(id:Int)(b:List UInt8):List bC:=if b=[] then l else match DH l id with|some i=>l.set i {l.getD i ⟨0,0,0,0,[]⟩ with b:=(l.getD i ⟨0,0,0,0,[]⟩).b++b}|none=>l++[⟨3,id,0,0,b⟩]
def Wd.send (w:Wd)(id:Int)(b:List UInt8):Wd:={w with out:=oq w.out id b}
theorem B0 (w:Wd)(id:Int)(b:List UInt8)(hb:b.length≤1000000000){n:Nat}(hw:w.B n):aH (CG G) 79 [.op 0 0 0,dI id,.d (.sl 1 (aD b))] (lP w) [] (NR (w.send id b)):=by
 have hn1:=hw.lim;have hl:=hw.ol;have ho:=hw.ob;have hbl:=aK b;have hml:(w.out.map bn).length=w.out.length:=by simp
 unfold Wd.send oq;by_cases h0:b=[]
 ·rw[if_pos h0];subst h0;refine aH.mk (n:=71) Tryz.func79 rfl rfl rfl (Nat.le_of_ble_eq_true rfl) rfl (ad (aj rfl ?_));repeat'(first|refine ad ?_|refine dk ?_|refine ae (fun _=>?_) (fun _=>?_)|refine aq ?_)
  apply aw [(16,_)];exact aF
 ·rw[if_neg h0];have hb0:b.length≠0:=fun h=>h0 (List.eq_nil_of_length_eq_zero h);refine aH.mk (n:=71) Tryz.func79 rfl rfl rfl (Nat.le_of_ble_eq_true rfl) rfl (ad (ai (by omega) (ad ?_)));apply aA (fun i:Nat=>i≤w.out.length∧∀(j:Nat)(h:j<w.out.length),j<i→¬(w.out[j].kind=3∧w.out[j].conn=id)) (fun i=>⟨[(0,.op 0 0 0),(1,dI id),(2,.d (.sl 1 (aD b))),(6,dI (i:Int))],lP w,2⟩) (fun i=>w.out.length-i) 0 ⟨Nat.zero_le _,fun j _ hj=>by omega⟩ [];·exact aF
  ·rintro i ⟨hi,hn⟩;refine ad ?_;refine ae (fun h1=>?_) (fun h1=>?_)
   ·have hi':i<w.out.length:=by omega
    have hai:=ho _ (Nr hi');have hnx:¬(w.out[i].kind=3∧w.out[i].conn=id)→∀(j:Nat)(h:j<w.out.length),j<i+1→¬(w.out[j].kind=3∧w.out[j].conn=id):=by
     intro hne j h hj;by_cases hji:j<i;·exact hn j h hji
     ·obtain rfl:j=i:=by omega
      exact hne
    refine ad (bh i rfl (by omega) (az (bX hi') ?_));refine ae (fun h2=>?_) (fun h2=>?_)
    ·refine bh i rfl (by omega) (az (bX hi') ?_);refine ae (fun h3=>?_) (fun h3=>?_)
     ·have hf:DH w.out id=some i:=by unfold DH;rw[List.findIdx?_eq_some_iff_getElem];refine⟨hi',by simp[h2,h3],fun j hj=>?_⟩;have:=hn j (by omega) hj;simpa using this
      have hgd:w.out.getD i ⟨0,0,0,0,[]⟩=w.out[i]:=by simp[hi']
      rw[hf];simp only[hgd];refine bh i rfl (by omega) (az (bX hi') (aB (by simp[aK];omega) (aB (by simp[aK];omega) (bh i rfl (by omega) (ax (bX hi') ?_)))));repeat'(first|refine ad ?_|refine dk ?_|refine ae (fun _=>?_) (fun _=>?_)|refine aq ?_)
      apply aw [(16,_)];((repeat' constructor)<;>(first|refine aI ?_|rfl)<;>first|exact oT|skip);all_goals simp[List.map_set,bn,cU]
     ·repeat'(first|refine ad ?_|refine dk ?_|refine ae (fun _=>?_) (fun _=>?_)|refine aq ?_)
      apply aG (i+1) [] ⟨by omega,hnx fun h=>h3 h.2⟩ (by omega);exact aF
    ·repeat'(first|refine ad ?_|refine dk ?_|refine ae (fun _=>?_) (fun _=>?_)|refine aq ?_)
     apply aG (i+1) [] ⟨by omega,hnx fun h=>h2 h.1⟩ (by omega);exact aF
   ·have hf:DH w.out id=none:=by unfold DH;rw[List.findIdx?_eq_none_iff];intro x hx;obtain⟨j,hj,rfl⟩:=List.getElem_of_mem hx;have:=hn j hj (by omega);simpa using this
    rw[hf];refine aB (by simp;omega) ?_;repeat'(first|refine ad ?_|refine dk ?_|refine ae (fun _=>?_) (fun _=>?_)|refine aq ?_)
    apply aw [(16,_)];((repeat' constructor)<;>(first|refine aI ?_|rfl)<;>first|exact oT|skip);all_goals simp[bn]
end Go.Proofs.YtgfdbddglhblbaaGreat
namespace Go.Proofs.YtgfdbddglhblbaaGreat
open Go.Eng
theorem lg_ {p:Prop}(h:p:=by(first|with_reducible rfl|(simp only[Wd.setC,Wd.setU,Wd.act,aQ,aP,Ns,Ng];rfl)|(congr 1<;>omega)|(congr 1<;>simp;done)|(simp;done)|rfl)):p:=h
theorem be {p:Prop}(h:p:=by((repeat' constructor)<;>(first|refine aI ?_|rfl)<;>first|with_reducible rfl|(simp only[Wd.setC,Wd.setU,Wd.act,aQ,aP,Ns,Ng];rfl)|(congr 1<;>omega)|(congr 1<;>simp;done)|(simp;done)|rfl|skip)):p:=h
end Go.Proofs.YtgfdbddglhblbaaGreat
namespace Go.Proofs.YtgfdbddglhblbaaGreat
open Go.Eng
attribute [local irreducible] aO
set_option maxRecDepth 100000
def Wd.putC (w:Wd)(k:Nat)(id:Int)(b:List UInt8):Wd:=(w.setC k {w.cl k with po:=((w.cl k).po.put b).p}).send id ((w.cl k).po.put b).sent
def Wd.put (w:Wd)(id:Int)(b:List UInt8):Wd:=match bM w.p.cls id with|none=>w|some k=>if((w.cl k).po.put b).e=0 then w.putC k id b else w
def Wd.fits (w:Wd)(id:Int)(b:List UInt8):Bool:=match bM w.p.cls id with|none=>false|some k=>decide (((w.cl k).po.put b).e=0)
theorem mg:∀(l:List Nat)(k x:Nat)(h:k<l.length),(l.set k x).sum+l[k]=l.sum+x|a::l,0,x,h=>by simp;omega;|a::l,k+1,x,h=>by have:=mg l k x (by simpa using h);simp at this⊢;omega
theorem Wd.bc_setC (w:Wd){k:Nat}(hk:k<w.p.cls.length)(c:Cl):(w.setC k c).bc+(w.cl k).po.bud.toNat=w.bc+c.po.bud.toNat:=by have:=mg (w.p.cls.map fun c=>c.po.bud.toNat) k c.po.bud.toNat (by simpa using hk);unfold Wd.bc Wd.setC Wd.cl;simp only[List.map_set];simp only[List.getElem_map] at this;simpa[hk] using this
theorem Wd.bu_setU (w:Wd){k:Nat}(hk:k<w.p.ups.length)(c:Up):(w.setU k c).bu+(w.up k).po.bud.toNat=w.bu+c.po.bud.toNat:=by have:=mg (w.p.ups.map fun c=>c.po.bud.toNat) k c.po.bud.toNat (by simpa using hk);unfold Wd.bu Wd.setU Wd.up;simp only[List.map_set];simp only[List.getElem_map] at this;simpa[hk] using this
theorem Wd.B.setC {w:Wd}{n k:Nat}{c:Cl}(h:w.B n)(hk:k<w.p.cls.length)(hc:c.po.bud≤(w.cl k).po.bud):(w.setC k c).B n:=by have h1:=w.bc_setC hk c;have h2:=h.ph;refine⟨h.lim,h.ol,?_⟩;have e1:(w.setC k c).bo=w.bo:=rfl;have e2:(w.setC k c).bu=w.bu:=rfl;unfold Wd.phi at*;omega
theorem Wd.B.setU {w:Wd}{n k:Nat}{c:Up}(h:w.B n)(hk:k<w.p.ups.length)(hc:c.po.bud≤(w.up k).po.bud):(w.setU k c).B n:=by have h1:=w.bu_setU hk c;have h2:=h.ph;refine⟨h.lim,h.ol,?_⟩;have e1:(w.setU k c).bo=w.bo:=rfl;have e2:(w.setU k c).bc=w.bc:=rfl;unfold Wd.phi at*;omega
theorem Fu (l:List bC)(id:Int)(b:List UInt8):((oq l id b).map fun a=>a.b.length).sum=(l.map fun a=>a.b.length).sum+b.length∧(oq l id b).length≤l.length+1:=by
 unfold oq;by_cases h0:b=[];·simp[h0]
 ·rw[if_neg h0];cases h:DH l id with|none=>simp;|some i=>obtain⟨hlt,_⟩:=List.findIdx?_eq_some_iff_getElem.1 h;have:=mg (l.map fun a=>a.b.length) i ((l[i].b++b).length) (by simpa using hlt);simp only[List.getElem_map,Na] at this;simp[hlt,List.map_set];omega
theorem Wd.B.send {w:Wd}{n:Nat}{id:Int}{b:List UInt8}(hl:n<10000000000)(h1:w.out.length≤n)(h2:w.phi+b.length≤60000000000):(w.send id b).B (n+1):=by
 obtain⟨e1,e2⟩:=Fu w.out id b;refine⟨by omega,?_,?_⟩;·show(oq w.out id b).length≤n+1;omega
 ·have e3:(w.send id b).bo=w.bo+b.length:=e1;have e4:(w.send id b).bc=w.bc:=rfl;have e5:(w.send id b).bu=w.bu:=rfl;unfold Wd.phi at*;omega
theorem vA (p:cH)(b:List UInt8)(he:(p.put b).e=0)(hp:0≤p.bud):(p.put b).p.bud.toNat+(p.put b).sent.length=p.bud.toNat∧(p.put b).p.bud≤p.bud:=by
 unfold cH.put at*;split at he;·simp at he
 ·rename_i h;rw[if_neg h];simp only[cH.flush,Nj,cH.fl];simp only[Na];omega
theorem sO (w:Wd)(id:Int)(b:List UInt8){n:Nat}(hs:w.S)(hw:w.B n)(hb:b.length≤900000000):aH (CG G) 100 [.op 0 0 0,dI id,.d (.sl 1 (aD b))] (lP w) [.d (.b (w.fits id b))] (NR (w.put id b)):=by have c1:=dt w.p id hs.cl;unfold Wd.put Wd.fits;cases hk:bM w.p.cls id with
 |none=>
 rw[hk,da] at c1;unfold dw bf at*;refine aH.mk (n:=49) Tryz.func100 rfl rfl rfl (Nat.le_of_ble_eq_true rfl) rfl (ah c1 (ad (aj (by decide) ?_)));repeat'(first|refine ad ?_|refine dk ?_|refine ae (fun _=>?_) (fun _=>?_)|refine aq ?_)
 apply aw [(16,_)];exact aF;|some k=>
 rw[hk,bj] at c1;obtain⟨hlt,hid⟩:=aR hk;have hg:=w.get_cl hlt;have hq:=(hs.cg _ (w.cl_mem hlt)).po;have hqb:=hq.bud;have c2:=Kl (w.cl k).po b hq.bud hq.ol hb;simp only[];unfold Wd.putC;by_cases he:((w.cl k).po.put b).e=0
 ·have hbb:=vA _ _ he hq.bud.1;have c3:=B0 (w.setC k {w.cl k with po:=((w.cl k).po.put b).p}) id ((w.cl k).po.put b).sent (n:=n) (by omega) (hw.setC hlt hbb.2);rw[if_pos he];unfold dw bf ee at*;refine aH.mk (n:=49) Tryz.func100 rfl rfl rfl (Nat.le_of_ble_eq_true rfl) rfl (ah c1 (ad (ai (by omega) (bh k rfl (by simpa using hlt) (az hg (ah c2 ?_))))));rw[he];refine ad (ai (fun h=>h rfl) ?_);repeat'(first|refine ad ?_|refine dk ?_|refine bh k rfl (by simpa using hlt) ?_|refine ax hg ?_|refine ae (fun _=>?_) (fun _=>?_)|refine aq ?_)
  apply ak [(0,_),(1,_),(2,_),(3,_)] c3;·exact be
  ·repeat'(first|refine ad ?_|refine dk ?_|refine ae (fun _=>?_) (fun _=>?_)|refine aq ?_)
   apply aw [(16,_)];exact be
 ·rw[if_neg he];unfold dw bf ee at*;refine aH.mk (n:=49) Tryz.func100 rfl rfl rfl (Nat.le_of_ble_eq_true rfl) rfl (ah c1 (ad (ai (by omega) (bh k rfl (by simpa using hlt) (az hg (ah c2 (ad (aj he ?_))))))));repeat'(first|refine ad ?_|refine dk ?_|refine ae (fun _=>?_) (fun _=>?_)|refine aq ?_)
  rw[decide_eq_false he];apply aw [(16,_)];exact aF
theorem au {l:List D}{k:Nat}{x:D}(h:k<l.length):(l.set k x)[k]?=some x:=by simp[h]
def Cl.over (c:Cl)(now:Int):Cl:=⟨{c.po with closing:=c.ex.cl||c.po.closing},.zero,now,.zero⟩
def Wd.over (w:Wd)(k:Nat):Wd:=w.setC k ((w.cl k).over w.p.now)
theorem qI (w:Wd)(id:Int)(k:Nat)(hs:w.S)(hk:bM w.p.cls id=some k):aH (CG G) 101 [.op 0 0 0,dI id] (lP w) [] (NR (w.over k)):=by
 have c1:=dt w.p id hs.cl;unfold Wd.over;rw[hk,bj] at c1;obtain⟨hlt,hid⟩:=aR hk;have hg:=w.get_cl hlt;unfold dU dD at hg;unfold dw bf at*;cases hb:(w.cl k).ex.cl
 ·rw[hb] at hg;refine mH 44 Tryz.func101 ?_;repeat'(first|refine ad ?_|refine dk ?_|refine ah (c1) ?_|refine bh k rfl (by simpa using hlt) ?_|refine ax (au (by simpa using hlt)) ?_|refine ax hg ?_|refine az (au (by simpa using hlt)) ?_|refine az hg ?_|refine ae (fun _=>?_) (fun _=>?_)|refine aq ?_)
  apply aw [(16,_)];((repeat' constructor)<;>(first|refine aI ?_|rfl)<;>first|with_reducible rfl|(simp only[Wd.setC,aQ,Ns,Cl.over,hb,Bool.false_or];rfl)|(congr 1<;>omega)|(congr 1<;>simp;done)|(simp;done)|rfl|skip)
 ·rw[hb] at hg;refine mH 44 Tryz.func101 ?_;repeat'(first|refine ad ?_|refine dk ?_|refine ah (c1) ?_|refine bh k rfl (by simpa using hlt) ?_|refine ax (au (by simpa using hlt)) ?_|refine ax hg ?_|refine az (au (by simpa using hlt)) ?_|refine az hg ?_|refine ae (fun _=>?_) (fun _=>?_)|refine aq ?_)
  apply aw [(16,_)];((repeat' constructor)<;>(first|refine aI ?_|rfl)<;>first|with_reducible rfl|(simp only[Wd.setC,aQ,Ns,Cl.over,hb,Bool.true_or];rfl)|(congr 1<;>omega)|(congr 1<;>simp;done)|(simp;done)|rfl|skip)
noncomputable def Wd.prim (w:Wd)(ser:Int)(sn:Sn)(cm:Bool):Wd:=if w.p.cfg.mirror=false then w else⟨{w.p with sh:=(yH w.p.sh ser sn cm).1},w.out++(yH w.p.sh ser sn cm).2⟩
theorem zr (s:bz)(e:Int)(sn:Sn)(cm:Bool):(yH s e sn cm).2.length≤1∧∀a,a∈(yH s e sn cm).2→a.b=[]:=by
 unfold yH;split;·simp
 ·split;·exact gX _ _
  ·simp
theorem EA (w:Wd)(ser:Int)(sn:Sn)(cm:Bool){n:Nat}(hs:w.S)(hw:w.B n)(hsn:sn.Gd):aH (CG G) 109 [.op 0 0 0,dI ser,.d (zg sn),.d (.b cm)] (lP w) [] (NR (w.prim ser sn cm)):=by
 have c1:=GW w.p.sh ser sn cm hs.sh.j hsn;have hsm:=zr w.p.sh ser sn cm;have hol:=hw.ol;have hlim:=hw.lim;unfold Wd.prim;cases hm:w.p.cfg.mirror
 ·rw[if_pos rfl];simp only[lP,NR,fG,hm];unfold zg jH;refine mH 43 Tryz.func109 ?_;repeat'(first|refine ad ?_|refine dk ?_|refine ae (fun _=>?_) (fun _=>?_)|refine aq ?_)
  apply aw [(16,_)];exact be
 ·rw[if_neg (by simp)];generalize yH w.p.sh ser sn cm=t at*;have hml:(w.out.map bn).length=w.out.length:=by simp
  have hml2:(t.2.map bn).length=t.2.length:=by simp
  have e:∀q:aU,fG ⟨q,w.out++t.2⟩ 1 2 16=fG ⟨q,w.out++t.2⟩ 1 2 16:=fun _=>rfl;simp only[lP,NR,fG,hm];unfold bJ aZ bS zg jH at*;refine mH 43 Tryz.func109 ?_;repeat'(first|refine ad ?_|refine dk ?_|refine ah (c1) ?_|refine aB (by omega) ?_|refine ae (fun _=>?_) (fun _=>?_)|refine aq ?_)
  apply aw [(16,_)];exact be
abbrev jr (w:Wd):List (Nat×Option aS):=[(0,some (fG w 16 17 18)),(16,some (.buf 65 (w.p.cls.map dU))),(17,some (.buf 33 (w.p.ups.map fo))),(18,some (.buf 5 (w.out.map bn)))]
def Wd.hangC (w:Wd)(k:Nat)(id:Int)(quiet:Bool):Wd:=⟨{w.p with cls:=w.p.cls.take k++w.p.cls.drop (k+1)},w.out++if quiet then[] else[⟨4,id,0,0,[]⟩]⟩
def Wd.hang (w:Wd)(id:Int)(quiet:Bool):Wd:=match bM w.p.cls id with|none=>w|some k=>w.hangC k id quiet
theorem ve (w:Wd)(id:Int)(quiet:Bool){n:Nat}(hs:w.S)(hw:w.B n):aH (CG G) 81 [.op 0 0 0,dI id,.d (.b quiet)] (lP w) [] (jr (w.hang id quiet)):=by
 have c1:=dt w.p id hs.cl;have hol:=hw.ol;have hlim:=hw.lim;have hcl:=hs.cl;have hml:(w.out.map bn).length=w.out.length:=by simp
 have hcm:(w.p.cls.map dU).length=w.p.cls.length:=by simp
 unfold Wd.hang;unfold dw bf at*;cases hk:bM w.p.cls id with
 |none=>
 rw[hk,da] at c1;refine mH 50 Tryz.func81 ?_;repeat'(first|refine ad ?_|refine dk ?_|refine ah (c1) ?_|refine aj (by decide) ?_|refine ae (fun _=>?_) (fun _=>?_)|refine aq ?_)
 apply aw [(16,_),(17,_),(18,_)];exact be;|some k=>
 rw[hk,bj] at c1;obtain⟨hlt,hid⟩:=aR hk;unfold Wd.hangC;cases quiet
 ·refine aH.mk (n:=50) Tryz.func81 rfl rfl rfl (Nat.le_of_ble_eq_true rfl) rfl (ah c1 ?_);apply bd (fun _:Unit=>True) (fun _=>⟨[(0,.op 0 0 0),(1,dI id),(2,.d (.b false)),(6,dI (k:Int))],[(0,some (.box [dI w.p.cfg.maxHead,dI w.p.cfg.maxBody,dI w.p.cfg.maxReply,dI w.p.cfg.cin,dI w.p.cfg.cout,dI w.p.cfg.clients,dI w.p.cfg.admins,dI w.p.cfg.listeners,dI w.p.cfg.stable,dI w.p.cfg.canary,dI w.p.cfg.shadow,dI w.p.cfg.tee,dI w.p.cfg.idle,dI w.p.cfg.reqd,dI w.p.cfg.shadd,dI w.p.cfg.reports,.d (.sl 1 (w.p.cfg.plan.ws.map (.i .i64))),dI w.p.cfg.plan.ms,dI w.p.cfg.plan.nu,dI w.p.cfg.plan.de,dI w.p.cfg.plan.ho,dI w.p.cfg.plan.wi,.d (.s w.p.cfg.salt),.d (.s w.p.cfg.cookie),.d (.b w.p.cfg.mirror),.d (.sl 1 (w.p.cfg.ignore.map .s)),dI w.p.now,dI w.p.draw,dI w.p.ser,dI w.p.ro.st,dI w.p.ro.sg,dI w.p.ro.he,dI w.p.ro.tt,dI w.p.ro.er,dI w.p.ro.ag,.d (.sl 65 (w.p.cls.map dU)),.os 2,dI w.p.sta.ba,dI w.p.sta.qu,dI w.p.sta.se,.d (.sl 1 (w.p.sta.id.map (.i .i64))),.d (.sl 1 (w.p.sta.bu.map (.i .i64))),dI w.p.can.ba,dI w.p.can.qu,dI w.p.can.se,.d (.sl 1 (w.p.can.id.map (.i .i64))),.d (.sl 1 (w.p.can.bu.map (.i .i64))),dI w.p.sh.pool.ba,dI w.p.sh.pool.qu,dI w.p.sh.pool.se,.d (.sl 1 (w.p.sh.pool.id.map (.i .i64))),.d (.sl 1 (w.p.sh.pool.bu.map (.i .i64))),.d (.sl 55 (w.p.sh.jobs.map bI)),dI w.p.sh.rep.cap,dI w.p.sh.rep.ser,.d (.sl 6 (w.p.sh.rep.l.map NH)),.os 3])),(2,some (.buf 33 (w.p.ups.map fo))),(3,some (.buf 5 (w.out.map bn)))],3⟩)
  ·refine ai (by omega) ?_;repeat'(first|refine ad ?_|refine dk ?_|refine ae (fun _=>?_) (fun _=>?_)|refine aq ?_)
   apply aC () [] trivial;exact be
  ·rintro _ _;repeat'(first|refine ad ?_|refine dk ?_|refine bnd k rfl (by omega) ?_|refine bnd (k+1) (by omega) (by omega) ?_|refine aB (by simp;omega) ?_|refine ae (fun _=>?_) (fun _=>?_)|refine aq ?_)
   apply aw [(16,_),(17,_),(18,_)];((repeat' constructor)<;>(first|refine aI ?_|rfl)<;>first|with_reducible rfl|(simp only[Ng,List.map_take,List.map_drop];rfl)|(congr 1<;>omega)|(congr 1<;>simp;done)|(simp;done)|rfl|skip)
 ·refine aH.mk (n:=50) Tryz.func81 rfl rfl rfl (Nat.le_of_ble_eq_true rfl) rfl (ah c1 ?_);apply bd (fun _:Unit=>True) (fun _=>⟨[(0,.op 0 0 0),(1,dI id),(2,.d (.b true)),(6,dI (k:Int))],[(0,some (.box [dI w.p.cfg.maxHead,dI w.p.cfg.maxBody,dI w.p.cfg.maxReply,dI w.p.cfg.cin,dI w.p.cfg.cout,dI w.p.cfg.clients,dI w.p.cfg.admins,dI w.p.cfg.listeners,dI w.p.cfg.stable,dI w.p.cfg.canary,dI w.p.cfg.shadow,dI w.p.cfg.tee,dI w.p.cfg.idle,dI w.p.cfg.reqd,dI w.p.cfg.shadd,dI w.p.cfg.reports,.d (.sl 1 (w.p.cfg.plan.ws.map (.i .i64))),dI w.p.cfg.plan.ms,dI w.p.cfg.plan.nu,dI w.p.cfg.plan.de,dI w.p.cfg.plan.ho,dI w.p.cfg.plan.wi,.d (.s w.p.cfg.salt),.d (.s w.p.cfg.cookie),.d (.b w.p.cfg.mirror),.d (.sl 1 (w.p.cfg.ignore.map .s)),dI w.p.now,dI w.p.draw,dI w.p.ser,dI w.p.ro.st,dI w.p.ro.sg,dI w.p.ro.he,dI w.p.ro.tt,dI w.p.ro.er,dI w.p.ro.ag,.d (.sl 65 (w.p.cls.map dU)),.os 2,dI w.p.sta.ba,dI w.p.sta.qu,dI w.p.sta.se,.d (.sl 1 (w.p.sta.id.map (.i .i64))),.d (.sl 1 (w.p.sta.bu.map (.i .i64))),dI w.p.can.ba,dI w.p.can.qu,dI w.p.can.se,.d (.sl 1 (w.p.can.id.map (.i .i64))),.d (.sl 1 (w.p.can.bu.map (.i .i64))),dI w.p.sh.pool.ba,dI w.p.sh.pool.qu,dI w.p.sh.pool.se,.d (.sl 1 (w.p.sh.pool.id.map (.i .i64))),.d (.sl 1 (w.p.sh.pool.bu.map (.i .i64))),.d (.sl 55 (w.p.sh.jobs.map bI)),dI w.p.sh.rep.cap,dI w.p.sh.rep.ser,.d (.sl 6 (w.p.sh.rep.l.map NH)),.os 3])),(2,some (.buf 33 (w.p.ups.map fo))),(3,some (.buf 5 (w.out.map bn)))],3⟩)
  ·refine ai (by omega) ?_;repeat'(first|refine ad ?_|refine dk ?_|refine ae (fun _=>?_) (fun _=>?_)|refine aq ?_)
   apply aC () [] trivial;exact be
  ·rintro _ _;repeat'(first|refine ad ?_|refine dk ?_|refine bnd k rfl (by omega) ?_|refine bnd (k+1) (by omega) (by omega) ?_|refine aB (by simp;omega) ?_|refine ae (fun _=>?_) (fun _=>?_)|refine aq ?_)
   apply aw [(16,_),(17,_),(18,_)];((repeat' constructor)<;>(first|refine aI ?_|rfl)<;>first|with_reducible rfl|(simp only[Ng,List.map_take,List.map_drop,if_true,List.append_nil];rfl)|(congr 1<;>omega)|(congr 1<;>simp;done)|(simp;done)|rfl|skip)
end Go.Proofs.YtgfdbddglhblbaaGreat
