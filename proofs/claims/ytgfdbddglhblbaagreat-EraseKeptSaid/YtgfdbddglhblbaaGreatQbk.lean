/- A part of the proof of what is stated of the erasing of a mirror. -/
import Derived.Test.YtgfdbddglhblbaaGreatQbj
set_option maxHeartbeats 64000000
namespace Go.Proofs.YtgfdbddglhblbaaGreat
open Go.Eng
attribute [local irreducible] aO
set_option maxRecDepth 100000
theorem least {P:Nat→Prop}:∀{n:Nat},¬P n→∃k,k≤n∧¬P k∧∀j,j<k→P j
 |0,h=>⟨0,Nat.le_refl _,h,fun j hj=>by omega⟩|n+1,h=>by
  by_cases h1:∀j,j<n+1→P j;·exact⟨n+1,Nat.le_refl _,h,h1⟩
  ·obtain⟨j,hj⟩:=Classical.not_forall.1 h1;have hj1:j<n+1:=Classical.byContradiction fun h2=>hj fun h3=>absurd h3 h2;have hj2:¬P j:=fun h2=>hj fun _=>h2;have:∀(m j:Nat),j≤m→¬P j→∃k,k≤m∧¬P k∧∀i,i<k→P i:=by intro m;induction m with|zero=>intro j hjm hPj;obtain rfl:j=0:=(by omega);exact⟨0,Nat.le_refl _,hPj,fun i hi=>by omega⟩;|succ m ih=>
     intro j hjm hPj;by_cases h4:∃i,i≤m∧¬P i;·obtain⟨i,h5,h6⟩:=h4;obtain⟨k,k1,k2,k3⟩:=ih i h5 h6;exact⟨k,by omega,k2,k3⟩
     ·refine⟨j,hjm,hPj,fun i hi=>?_⟩;exact Classical.byContradiction fun h7=>h4 ⟨i,by omega,h7⟩
   obtain⟨k,k1,k2,k3⟩:=this n j (by omega) hj2;exact⟨k,by omega,k2,k3⟩
structure Sn4 where
 p:aU
 ev:List Ev
 st:List fk
 nx:Int
 i:Nat
theorem Jc {c:bk}{l:List Int}(hll:l.length≤1000000)(most:Int)(hm:most≤42)(s0:Sn4)(h0:SM c s0.p s0.ev s0.st s0.nx)(hi:s0.i≤l.length)(he:s0.ev.length≤3):∃(f:Nat→Sn4)(K:Nat),f 0=s0∧¬((f K).i<l.length∧((f K).ev.length:Int)<most)∧(f K).ev.length≤45∧SM c (f K).p (f K).ev (f K).st (f K).nx∧(f K).i≤l.length∧∀k,k<K→(f k).i<l.length∧((f k).ev.length:Int)<most∧aH (CG G) 49 [.op 0 0 0,.op 1 0 0] (eR c (f k).p (f k).ev (f k).st (f k).nx l (f k).i) [] (mU c (f (k+1)).p (f (k+1)).ev (f (k+1)).st (f (k+1)).nx l (f (k+1)).i):=by
 obtain⟨f,f0,hf⟩:=LP (S:=Sn4) (fun _ s=>SM c s.p s.ev s.st s.nx∧s.i≤l.length)
  (fun _ s s'=>s.ev.length≤45→s'.ev.length=s.ev.length+1∧aH (CG G) 49 [.op 0 0 0,.op 1 0 0] (eR c s.p s.ev s.st s.nx l s.i) [] (mU c s'.p s'.ev s'.st s'.nx l s'.i)) s0 ⟨h0,hi⟩ (by
  rintro k s ⟨h1,h2⟩;by_cases h3:s.ev.length≤45;·obtain⟨p',e,st',nx',i',a1,a2,a3⟩:=actE h1 h3 h2 hll;exact⟨⟨p',s.ev++[e],st',nx',i'⟩,⟨a1,a2⟩,fun _=>⟨by simp,a3⟩⟩
  ·exact⟨s,⟨h1,h2⟩,fun h4=>absurd h4 h3⟩);have hlen:∀k,(∀j,j<k→((f j).ev.length:Int)<most)→(f k).ev.length=s0.ev.length+k:=by intro k;induction k with|zero=>intro _;rw[f0];rfl;|succ k ih=>intro h;have h1:=ih fun j hj=>h j (by omega);have h2:=h k (by omega);have h3:=((hf k).2 (by omega)).1;omega
 obtain⟨n,hn,hn2⟩:∃n,n≤46∧¬((f n).i<l.length∧((f n).ev.length:Int)<most):=by refine Classical.byContradiction fun hc=>?_;have hall:∀n,n≤46→(f n).i<l.length∧((f n).ev.length:Int)<most:=fun n hn=>Classical.byContradiction fun h=>hc ⟨n,hn,h⟩;have h1:=hlen 46 fun j hj=>(hall j (by omega)).2;have h2:=(hall 46 (Nat.le_refl _)).2;omega
 obtain⟨K,hK,hP,hj⟩:=least (P:=fun k=>(f k).i<l.length∧((f k).ev.length:Int)<most) hn2;have hl:∀k,k≤K→(f k).ev.length≤45:=by intro k hk;cases k with|zero=>rw[f0];omega;|succ k=>have h1:=(hj k (by omega)).2;have h2:=((hf k).2 (by omega)).1;omega
 exact⟨f,K,f0,hP,hl K (Nat.le_refl _),(hf K).1.1,(hf K).1.2,fun k hk=>⟨(hj k hk).1,(hj k hk).2,((hf k).2 (hl k (by omega))).2⟩⟩
def rz:List UInt8:=[80,79,83,84,32,47,114,111,108,108,111,117,116,47,115,116,97,114,116,32,72,84,84,80,47,49,46,48,13,10,67,111,110,110,101,99,116,105,111,110,58,32,107,101,101,112,45,97,108,105,118,101,13,10,13,10]
theorem goE (c:bk)(hc:CfN c)(p0:aU)(l:List Int)(i:Nat)(most:Int)(hm:most≤42)(hi:i≤l.length)(hll:l.length≤1000000):∃(s:Sn4),SM c s.p s.ev s.st s.nx∧s.ev.length≤45∧s.i≤l.length∧aH (CG G) 24 [.op 0 0 0,.op 1 0 0,dI most] (eR c p0 [] [] 0 l i) [.op 0 0 0] (mU c s.p s.ev s.st s.nx l s.i):=by
 have cN:=Om c hc.m.ok;have hI:=Ol hc;generalize iz c=p1 at cN hI;obtain⟨r,i1,hr,g1,c1⟩:=bR l i 3 hi hll (by omega);have h1:SM c p1 [] [] 0:=⟨hc.m,hI,⟨Nat.zero_le _,fun x hx=>by cases hx⟩,⟨by omega,by simp⟩,fun x hx=>by cases hx⟩;obtain⟨s0,hS,he,hj,hsel⟩:∃s0:Sn4,SM c s0.p s0.ev s0.st s0.nx∧s0.ev.length≤3∧s0.i≤l.length∧((¬(r:Int)>0∧s0=⟨p1,[],[],0,i1⟩)∨((r:Int)>0∧∃(p2:aU)(e1:Ev)(st1:List fk)(j1:Nat),oE (lN st1 100001 rz) 1100000000 130000∧(∀x,x∈st1→x.2.length≤1000000000)∧st1.length≤60000000000∧aH (CG G) 45 [.op 0 0 0,.op 1 0 0,.d (bH ⟨1,100001,0,[]⟩)] (eR c p1 [] [] 0 l i1) [] (mU c p2 [e1] st1 0 l j1)∧aH (CG G) 47 [.op 0 0 0,.op 1 0 0,dI 100001,dI 100] (eR c p2 [e1] (lN st1 100001 rz) 0 l j1) [] (mU c s0.p s0.ev s0.st s0.nx l s0.i))):=by
  by_cases h0:(r:Int)>0
  ·have ok:=gx 1 100001 0 (by omega);obtain⟨st1,j1,a1,a2,a3⟩:=h1.do_ (by simp) l i1 ⟨1,100001,0,[]⟩ ok g1 hll;generalize b8 p1 ⟨1,100001,0,[]⟩=p2 at a1 a3;have b1:=(a1.st.say 100001 rz).up (n':=1100000000) (b':=130000) (by simp) (by simp[rz]);obtain⟨e2,st2,j2,e3,e4,b2,a4,a5⟩:=kH c p2 [⟨1,100001,0,[]⟩] (lN st1 100001 rz) 0 l j1 100001 100 a1.p hc.m (by simp) (by simp) (by omega) b1 (by omega) (by omega) a2 hll;have ok2:e2.Ok:=⟨⟨by rw[e3];decide,by rw[e3];decide⟩,Nat.le_trans e4 (by decide)⟩;refine⟨⟨b8 p2 e2,[⟨1,100001,0,[]⟩]++[e2],st2,0,j2⟩,⟨hc.m,?_,?_,?_,?_⟩,by simp,a4,.inr ⟨h0,p2,_,st1,j1,b1,fun x hx=>by have:=a1.st.b x hx;simp at this;omega,by have:=a1.st.n;simp at this;omega,a3,a5⟩⟩;·exact jB a1.p hc.m (by simp) e2 ok2.1
   ·exact b2.up (by simp) (by simp)
   ·simp
   ·intro x hx;rcases Np.1 hx with hx|hx;·rw[Nx.1 hx];exact ok
    ·rw[Nx.1 hx];exact ok2
  ·exact⟨_,h1,by simp,g1,.inl ⟨h0,rfl⟩⟩
 obtain⟨f,K,f0,hK,hlen,hSK,hiK,hstep⟩:=Jc hll most hm s0 hS hj he;refine⟨f K,hSK,hlen,hiK,?_⟩;unfold dw bf at cN;refine aH.mk (n:=47) Tryz.func24 rfl rfl rfl (Nat.le_of_ble_eq_true rfl) rfl (ah cN ?_);apply bd (fun _:Unit=>True) (fun _=>⟨[(0,.op 0 0 0),(1,.op 1 0 0),(2,dI most)],[(0,some (qH c s0.p s0.nx 18 17)),(1,wn l s0.i),(17,pT s0.st),(18,qG s0.ev)],2⟩)
 ·rcases hsel with⟨h5,rfl⟩|⟨h5,p2,e1,st1,j1,b1,b2,b3,cD,cV⟩
  ·refine ak [(0,1)] c1 ?_ ?_;·(try simp only[aE]);exact aF
   refine ai h5 ?_;apply aC () [(17,_),(18,_)] trivial;exact aF
  ·have cS:=JG c p2 [e1] st1 0 100001 rz b3 (by decide) b2;generalize lN st1 100001 rz=st2 at cS cV;unfold bH at cD;dsimp only at cD;refine ak [(0,1)] c1 ?_ ?_;·(try simp only[aE]);exact aF
   refine aj h5 ?_;apply ak [(0,_),(1,_),(2,_),(3,_)] cD;·exact aF
   apply ak [(0,_),(2,_),(3,_)] cS;·((repeat' constructor)<;>(first|refine aI ?_|rfl)<;>first|exact oT|skip);all_goals (first|rfl|skip)
   apply ak [(0,_),(1,_),(2,_),(3,_)] cV;·exact aF
   apply aC () [(17,_),(18,_)] trivial;exact aF
 ·rintro _ _;refine ad ?_;apply aA (fun k:Nat=>k≤K) (fun k=>⟨[(0,.op 0 0 0),(1,.op 1 0 0),(2,dI most)],[(0,some (qH c (f k).p (f k).nx 18 17)),(1,wn l (f k).i),(17,pT (f k).st),(18,qG (f k).ev)],2⟩) (fun k=>K-k) 0 (Nat.zero_le _) [(17,_),(18,_)];·((repeat' constructor)<;>(first|refine aI ?_|rfl)<;>first|exact oT|skip);all_goals (first|(rw[f0];done)|skip)
  ·rintro k hk;have cL:=Mg l (f k).i;have q1:((f k).ev.map bH).length=(f k).ev.length:=by simp
   by_cases hk':k<K
   ·obtain⟨z1,z2,cA⟩:=hstep k hk';rw[decide_eq_true (by omega)] at cL;refine ad ?_;refine ak [(0,1)] cL ?_ ?_;·(try simp only[aE]);exact aF
    refine aj (by omega) ?_;apply ak [(0,_),(1,_),(2,_),(3,_)] cA;·exact aF
    apply aG (k+1) [(17,_),(18,_)] (by omega) (by omega);exact aF
   ·obtain rfl:k=K:=by omega
    by_cases z1:(f k).i<l.length
    ·have z2:¬(((f k).ev.length:Nat):Int)<most:=fun h=>hK ⟨z1,h⟩;rw[decide_eq_true (by omega)] at cL;refine ad ?_;refine ak [(0,1)] cL ?_ ?_;·(try simp only[aE]);exact aF
     refine ai (by omega) ?_;apply aw [(16,_),(17,_)];exact aF
    ·rw[decide_eq_false (by omega)] at cL;refine ad ?_;refine ak [(0,1)] cL ?_ ?_;·(try simp only[aE]);exact aF
     apply aw [(16,_),(17,_)];exact aF
structure Ld (c:bk)(p:aU)(ev:List Ev)(st:List fk)(nx:Int):Prop where
 cf:CfN c
 len:ev.length≤45
 ok:∀e,e∈ev→e.Ok
theorem Oh (l:List Int)(hl:l.length≤9223372036854775807)(n:Int)(hn:0≤n∧n≤42):∃(c:bk)(p:aU)(ev:List Ev)(st:List fk)(nx:Int),Ld c p ev st nx∧aH (CG G) 5 [.d (ft l),dI n] [] [.op 16 0 0] [(16,some (qH c p nx 18 17)),(17,pT st),(18,qG ev)]:=by
 have hlt:(l.take (12*n).toNat).length≤1000000:=by rw[Nj];omega
 have cC:=cut51 l (12*n).toNat;have e:(((12*n).toNat:Nat):Int)=12*n:=by omega
 rw[e] at cC;generalize l.take (12*n).toNat=t at cC hlt;obtain⟨c,i1,hc,g1,c1⟩:=Iy t 0 (Nat.zero_le _) hlt;obtain⟨s,hS,hlen,hi,cG⟩:=goE c hc aU.zero t i1 n hn.2 g1 hlt;refine⟨c,s.p,s.ev,s.st,s.nx,⟨hc,hlen,hS.ok⟩,?_⟩;refine(oJ.mk_cut3 (n:=21) Tryz.func5 rfl rfl rfl (Nat.le_of_ble_eq_true rfl) rfl ⟨[(1,dI n),(5,.op 20 0 0),(6,.op 19 0 0)],[(19,some (qH c aU.zero 0 18 17)),(20,wn t i1),(17,pT []),(18,qG [])],3⟩ ?_ ?_).toH
 ·refine ar ⟨by omega,by omega⟩ (ah cC ?_);apply ak [(0,_)] c1;·(try simp only[aE]);exact aF
  apply Eng.freeze [(19,_),(20,_),(17,14),(18,14)];(try simp only[]);exact aF
 ·apply ak [(0,_),(1,_),(2,_),(3,_)] cG;·exact aF
  apply aw [(16,_),(17,_),(18,_)];exact aF
def oL (id:Int):Bool:=decide (bG id≠6)&&decide (bG id≠3)
theorem L9 (id:Int):ay (CG G) 31 [.i .i64 id] [.i .i64 (bG id)]:=by
 refine mD 45 Tryz.func31 ?_;repeat'(first|refine ad ?_|refine dk ?_|refine ae (fun _=>?_) (fun _=>?_)|refine aq ?_)
 all_goals refine congrArg (fun x=>[D.i .i64 x]) ?_
 all_goals (unfold bG;repeat' split)
 all_goals first|rfl|omega
theorem xT (id:Int):ay (CG G) 10 [.i .i64 id] [.b (oL id)]:=by
 have h1:=L9 id;unfold oL;generalize bG id=c at h1⊢;refine mD 12 Tryz.func10 ?_;repeat'(first|refine ad ?_|refine dk ?_|refine ah (h1) ?_|refine ae (fun _=>?_) (fun _=>?_)|refine aq ?_)
 all_goals refine congrArg (fun x=>[D.b x]) ?_
 all_goals simp_all
theorem N8 (id:Int):ay (CG G) 11 [.i .i64 id] [.b (oL id)]:=by
 have h1:=qt id;unfold oL;generalize bG id=c at h1⊢;refine mD 12 Tryz.func11 ?_;repeat'(first|refine ad ?_|refine dk ?_|refine ah (h1) ?_|refine ae (fun _=>?_) (fun _=>?_)|refine aq ?_)
 all_goals refine congrArg (fun x=>[D.b x]) ?_
 all_goals simp_all
abbrev kf:AV:=.agg [.fn (.func 10) [] []]
def dv (e:Ev):Bool:=decide (e.kind=8)||(decide (e.kind=9)||oL e.conn)
def dN (a:bC):Bool:=oL a.conn
def dC (t:tM):Bool:=dv t.1
theorem AU (e:Ev):aH (CG G) 35 [kf,.d (bH e)] [] [.d (.b (dv e))] []:=by
 have h1:=xT e.conn;unfold dv;unfold bH;generalize oL e.conn=k at h1⊢;by_cases a:e.kind=8;·refine aH.mk (n:=20) Tryz.func35 rfl rfl rfl (Nat.le_of_ble_eq_true rfl) rfl (aj a ?_);apply aw [];((repeat' constructor)<;>(first|refine aI ?_|rfl)<;>first|exact oT|skip);all_goals simp[a]
 ·by_cases b:e.kind=9;·refine aH.mk (n:=20) Tryz.func35 rfl rfl rfl (Nat.le_of_ble_eq_true rfl) rfl (ai a (aj b ?_));apply aw [];((repeat' constructor)<;>(first|refine aI ?_|rfl)<;>first|exact oT|skip);all_goals simp[b]
  ·refine aH.mk (n:=20) Tryz.func35 rfl rfl rfl (Nat.le_of_ble_eq_true rfl) rfl (ai a (ai b (ah h1 ?_)));apply aw [];((repeat' constructor)<;>(first|refine aI ?_|rfl)<;>first|exact oT|skip);all_goals simp[a,b]
theorem Gy (a:bC):aH (CG G) 41 [kf,.d (bn a)] [] [.d (.b (dN a))] []:=by have h1:=xT a.conn;unfold dN bn;refine aH.mk (n:=10) Tryz.func41 rfl rfl rfl (Nat.le_of_ble_eq_true rfl) rfl (ah h1 ?_);apply aw [];exact aF
theorem MV (t:tM):aH (CG G) 39 [kf,.d (fK t)] [] [.d (.b (dC t))] []:=by
 have h1:=AU t.1;unfold dC fK;unfold bH at h1;refine mH 9 Tryz.func39 ?_;refine ak [] h1 ?_ ?_;·exact aF
 apply aw [];exact aF
theorem E8 {α:Type}(l:List α)(f:α→Bool)(i:Nat)(h:i<l.length):(l.take (i+1)).filter f=(l.take i).filter f++if f l[i] then[l[i]] else[]:=by rw[Nh h,List.filter_append];cases hf:f l[i]<;>simp[hf]
theorem GR {α:Type}(l:List α)(f:α→Bool)(i:Nat):((l.take i).filter f).length≤i:=by have:=NC f (l.take i);rw[Nj] at this;omega
theorem Ks {l:List tM}{i:Nat}(h:i<l.length):(l.map fK)[i]?=some (fK l[i]):=by simp[h]
theorem M2 (l:List Ev)(hl:l.length*48≤140737488355328):aH (CG G) 34 [.d (.sl 4 (l.map bH)),.fn (.func 35) [kf] []] [] [.os 16] [(16,some (.buf 4 ((l.filter dv).map bH)))]:=by
 have hml:(l.map bH).length=l.length:=by simp
 refine aH.mk (n:=23) Tryz.func34 rfl rfl rfl (Nat.le_of_ble_eq_true rfl) rfl (ad ?_);apply aA (fun i:Nat=>i≤l.length) (fun i=>⟨[(1,.fn (.func 35) [kf] []),(5,.os 16),(8,.d (.sl 4 (l.map bH))),(9,dI (l.length:Int)),(10,dI (i:Int))],[(16,some (.buf 4 (((l.take i).filter dv).map bH)))],2⟩) (fun i=>l.length-i) 0 (Nat.zero_le _) [(16,_)];·exact aF
 ·rintro i hi;have hfl:=GR l dv i;refine ae (fun h1=>?_) (fun h1=>?_)
  ·have hi':i<l.length:=by omega
   have c1:=AU l[i];have hs:=E8 l dv i hi';have hg:=Bi hi';generalize l[i]=e at c1 hs hg;generalize dv e=b at c1 hs;cases b
   ·refine ad (ad (ao i rfl hg ?_));refine ak [] c1 ?_ ?_;·exact aF
    refine aq ?_;apply aG (i+1) [(16,_)] (by omega) (by omega);rw[hs];((repeat' constructor)<;>(first|refine aI ?_|rfl)<;>first|exact oT|skip);all_goals simp
   ·refine ad (ad (ao i rfl hg ?_));refine ak [] c1 ?_ ?_;·exact aF
    refine mj (by simp only[Nl,Nb,Nf];omega) (by show _*48≤_;simp only[Nl,Nb,Nf];omega) (ar ⟨by omega,by omega⟩ ?_);apply aG (i+1) [(16,_)] (by omega) (by omega);rw[hs];((repeat' constructor)<;>(first|refine aI ?_|rfl)<;>first|exact oT|skip);all_goals simp
    all_goals rfl
  ·obtain rfl:i=l.length:=by omega
   rw[ND];refine ad ?_;apply aw [(16,_)];exact aF
theorem K5 (l:List bC)(hl:l.length*56≤140737488355328):aH (CG G) 40 [.d (.sl 5 (l.map bn)),.fn (.func 41) [kf] []] [] [.os 16] [(16,some (.buf 5 ((l.filter dN).map bn)))]:=by
 have hml:(l.map bn).length=l.length:=by simp
 refine aH.mk (n:=23) Tryz.func40 rfl rfl rfl (Nat.le_of_ble_eq_true rfl) rfl (ad ?_);apply aA (fun i:Nat=>i≤l.length) (fun i=>⟨[(1,.fn (.func 41) [kf] []),(5,.os 16),(8,.d (.sl 5 (l.map bn))),(9,dI (l.length:Int)),(10,dI (i:Int))],[(16,some (.buf 5 (((l.take i).filter dN).map bn)))],2⟩) (fun i=>l.length-i) 0 (Nat.zero_le _) [(16,_)];·exact aF
 ·rintro i hi;have hfl:=GR l dN i;refine ae (fun h1=>?_) (fun h1=>?_)
  ·have hi':i<l.length:=by omega
   have c1:=Gy l[i];have hs:=E8 l dN i hi';have hg:=bX hi';generalize l[i]=e at c1 hs hg;generalize dN e=b at c1 hs;cases b
   ·refine ad (ad (ao i rfl hg ?_));refine ak [] c1 ?_ ?_;·exact aF
    refine aq ?_;apply aG (i+1) [(16,_)] (by omega) (by omega);rw[hs];((repeat' constructor)<;>(first|refine aI ?_|rfl)<;>first|exact oT|skip);all_goals simp
   ·refine ad (ad (ao i rfl hg ?_));refine ak [] c1 ?_ ?_;·exact aF
    refine mj (by simp only[Nl,Nb,Nf];omega) (by show _*56≤_;simp only[Nl,Nb,Nf];omega) (ar ⟨by omega,by omega⟩ ?_);apply aG (i+1) [(16,_)] (by omega) (by omega);rw[hs];((repeat' constructor)<;>(first|refine aI ?_|rfl)<;>first|exact oT|skip);all_goals simp
    all_goals rfl
  ·obtain rfl:i=l.length:=by omega
   rw[ND];refine ad ?_;apply aw [(16,_)];exact aF
theorem Lt (l:List tM)(hl:l.length*72≤140737488355328):aH (CG G) 38 [.d (.sl 5 (l.map fK)),.fn (.func 39) [kf] []] [] [.os 16] [(16,some (.buf 5 ((l.filter dC).map fK)))]:=by
 have hml:(l.map fK).length=l.length:=by simp
 refine aH.mk (n:=23) Tryz.func38 rfl rfl rfl (Nat.le_of_ble_eq_true rfl) rfl (ad ?_);apply aA (fun i:Nat=>i≤l.length) (fun i=>⟨[(1,.fn (.func 39) [kf] []),(5,.os 16),(8,.d (.sl 5 (l.map fK))),(9,dI (l.length:Int)),(10,dI (i:Int))],[(16,some (.buf 5 (((l.take i).filter dC).map fK)))],2⟩) (fun i=>l.length-i) 0 (Nat.zero_le _) [(16,_)];·exact aF
 ·rintro i hi;have hfl:=GR l dC i;refine ae (fun h1=>?_) (fun h1=>?_)
  ·have hi':i<l.length:=by omega
   have c1:=MV l[i];have hs:=E8 l dC i hi';have hg:=Ks hi';generalize l[i]=e at c1 hs hg;generalize dC e=b at c1 hs;cases b
   ·refine ad (ad (ao i rfl hg ?_));refine ak [] c1 ?_ ?_;·exact aF
    refine aq ?_;apply aG (i+1) [(16,_)] (by omega) (by omega);rw[hs];((repeat' constructor)<;>(first|refine aI ?_|rfl)<;>first|exact oT|skip);all_goals simp
   ·refine ad (ad (ao i rfl hg ?_));refine ak [] c1 ?_ ?_;·exact aF
    refine mj (by simp only[Nl,Nb,Nf];omega) (by show _*72≤_;simp only[Nl,Nb,Nf];omega) (ar ⟨by omega,by omega⟩ ?_);apply aG (i+1) [(16,_)] (by omega) (by omega);rw[hs];((repeat' constructor)<;>(first|refine aI ?_|rfl)<;>first|exact oT|skip);all_goals simp
    all_goals rfl
  ·obtain rfl:i=l.length:=by omega
   rw[ND];refine ad ?_;apply aw [(16,_)];exact aF
theorem Ah (xs:List UInt8)(h:xs.length≤140737488355328):ay (CG G) 36 [.sl 1 (aD xs)] [.sl 1 (aD xs)]:=by
 have hl:(aD xs).length=xs.length:=aK xs;refine ay.mk (n:=8) Tryz.func36 rfl rfl rfl (Nat.le_of_ble_eq_true rfl) (ad ?_);refine pN (fun h0=>?_) (fun h0=>?_)
 ·refine Lh ?_ ?_;·rw[h0];rfl
  ·refine mj (by simp;omega) (by show _*1≤_;simp;omega) ?_;rfl
 ·refine mj (by simp;omega) (by show _*1≤_;simp;omega) ?_;rfl
theorem uN (l:List Ev)(hl:l.length*48≤140737488355328)(hb:∀e,e∈l→e.b.length≤140737488355328):ay (CG G) 13 [.sl 4 (l.map bH)] [.sl 4 ((l.filter dv).map bH)]:=by
 have c1:=M2 l hl;have hb2:∀e,e∈l.filter dv→e.b.length≤140737488355328:=fun e he=>hb e (List.mem_filter.1 he).1;have hfl:=NC dv l;generalize l.filter dv=m at c1 hb2 hfl⊢;have hml:(m.map bH).length=m.length:=by simp
 refine mD 26 Tryz.func13 ?_;refine ak [] c1 ?_ ?_;·exact aF
 refine ad ?_;apply aA (fun i:Nat=>i≤m.length) (fun i=>⟨[(3,.os 16),(10,dI (m.length:Int)),(11,dI (i:Int))],[(16,some (.buf 4 (m.map bH)))],2⟩) (fun i=>m.length-i) 0 (Nat.zero_le _) [(16,_)];·exact aF
 ·rintro i hi;refine ae (fun h1=>?_) (fun h1=>?_)
  ·have hi':i<m.length:=by omega
   have hlt:i<(m.map bH).length:=by omega
   have hg:(m.map bH)[i]?=some (.agg [.i .i64 m[i].kind,.i .i64 m[i].conn,.i .i64 m[i].n,.sl 1 (aD m[i].b)]):=Bi hi';have c2:=Ah m[i].b (hb2 _ (Nr hi'));have hset:(m.map bH).set i (.agg [.i .i64 m[i].kind,.i .i64 m[i].conn,.i .i64 m[i].n,.sl 1 (aD m[i].b)])=m.map bH:=by obtain⟨h2,h3⟩:=Nc.1 hg;rw[←h3];exact List.set_getElem_self h2
   generalize m[i]=e at c2 hg hset;refine ad (ad (bh i rfl hlt (az hg (ah c2 (bh i rfl hlt (ax hg (ar ⟨by omega,by omega⟩ ?_)))))));apply aG (i+1) [(16,_)] (by omega) (by omega);((repeat' constructor)<;>(first|refine aI ?_|rfl)<;>first|exact oT|skip);all_goals exact congrArg _ hset
  ·obtain rfl:i=m.length:=by omega
   refine ad ?_;rfl
theorem Hw (l:List bC)(hl:l.length*56≤140737488355328)(hb:∀e,e∈l→e.b.length≤140737488355328):ay (CG G) 19 [.sl 5 (l.map bn)] [.sl 5 ((l.filter dN).map bn)]:=by
 have c1:=K5 l hl;have hb2:∀e,e∈l.filter dN→e.b.length≤140737488355328:=fun e he=>hb e (List.mem_filter.1 he).1;have hfl:=NC dN l;generalize l.filter dN=m at c1 hb2 hfl⊢;have hml:(m.map bn).length=m.length:=by simp
 refine mD 26 Tryz.func19 ?_;refine ak [] c1 ?_ ?_;·exact aF
 refine ad ?_;apply aA (fun i:Nat=>i≤m.length) (fun i=>⟨[(3,.os 16),(10,dI (m.length:Int)),(11,dI (i:Int))],[(16,some (.buf 5 (m.map bn)))],2⟩) (fun i=>m.length-i) 0 (Nat.zero_le _) [(16,_)];·exact aF
 ·rintro i hi;refine ae (fun h1=>?_) (fun h1=>?_)
  ·have hi':i<m.length:=by omega
   have hlt:i<(m.map bn).length:=by omega
   have hg:(m.map bn)[i]?=some (.agg [.i .i64 m[i].kind,.i .i64 m[i].conn,.i .i64 m[i].cls,.i .i64 m[i].n,.sl 1 (aD m[i].b)]):=bX hi';have c2:=Ah m[i].b (hb2 _ (Nr hi'));have hset:(m.map bn).set i (.agg [.i .i64 m[i].kind,.i .i64 m[i].conn,.i .i64 m[i].cls,.i .i64 m[i].n,.sl 1 (aD m[i].b)])=m.map bn:=by obtain⟨h2,h3⟩:=Nc.1 hg;rw[←h3];exact List.set_getElem_self h2
   generalize m[i]=e at c2 hg hset;refine ad (ad (bh i rfl hlt (az hg (ah c2 (bh i rfl hlt (ax hg (ar ⟨by omega,by omega⟩ ?_)))))));apply aG (i+1) [(16,_)] (by omega) (by omega);((repeat' constructor)<;>(first|refine aI ?_|rfl)<;>first|exact oT|skip);all_goals exact congrArg _ hset
  ·obtain rfl:i=m.length:=by omega
   refine ad ?_;rfl
def mV (t:tM):tM:=(t.1,t.2.filter dN)
structure tM.Ok (t:tM):Prop where
 b:t.1.b.length≤140737488355328
 l:t.2.length*56≤140737488355328
 a:∀a,a∈t.2→a.b.length≤140737488355328
theorem D9 {α:Type}(f:α→α)(l:List α)(i:Nat)(h:i≤l.length):((l.take i).map f++l.drop i).length=l.length:=by rw[Na,Nl,Nj,Nz];omega
theorem HP {α:Type}(f:α→α)(l:List α)(i:Nat)(h:i<l.length):((l.take i).map f++l.drop i).set i (f l[i])=(l.take (i+1)).map f++l.drop (i+1):=by
 have h1:((l.take i).map f).length=i:=by rw[Nl,Nj];omega
 rw[List.set_append_right _ _ (by omega),h1,Nat.sub_self,Nh h,Ng,Ny h,List.set_cons_zero,List.append_assoc];rfl
theorem HL {α:Type}(f:α→α)(l:List α)(i:Nat)(h:i<l.length):((l.take i).map f++l.drop i)[i]?=some l[i]:=by
 have h1:((l.take i).map f).length=i:=by rw[Nl,Nj];omega
 rw[List.getElem?_append_right (by omega),h1,Nat.sub_self,Ny h];rfl
def iG (l:List tM):List tM:=(l.filter dC).map mV
theorem Hi (l:List tM)(hl:l.length*72≤140737488355328)(hb:∀t,t∈l→t.Ok):ay (CG G) 16 [.sl 5 (l.map fK)] [.sl 5 ((iG l).map fK)]:=by
 have c1:=Lt l hl;have hb2:∀t,t∈l.filter dC→t.Ok:=fun t ht=>hb t (List.mem_filter.1 ht).1;have hfl:=NC dC l;unfold iG;generalize l.filter dC=m at c1 hb2 hfl⊢;refine mD 34 Tryz.func16 ?_;refine ak [] c1 ?_ ?_;·exact aF
 refine ad ?_;apply aA (fun i:Nat=>i≤m.length) (fun i=>⟨[(3,.os 16),(10,.os 16),(11,dI (m.length:Int)),(12,dI (i:Int))],[(16,some (.buf 5 (((m.take i).map mV++m.drop i).map fK)))],2⟩) (fun i=>m.length-i) 0 (Nat.zero_le _) [(16,_)];·((repeat' constructor)<;>(first|refine aI ?_|rfl)<;>first|exact oT|skip);all_goals simp
 ·rintro i hi;have hpl:=D9 mV m i hi;refine ae (fun h1=>?_) (fun h1=>?_)
  ·have hi':i<m.length:=by omega
   have hg0:=HL mV m i hi';have hs0:=HP mV m i hi';have hok:=hb2 _ (Nr hi');generalize m[i]=t at hg0 hs0 hok;generalize (m.take i).map mV++m.drop i=r at hg0 hpl hs0⊢;have hlt:i<(r.map fK).length:=by rw[Nl];omega
   have hg:(r.map fK)[i]?=some (.agg [.i .i64 t.1.kind,.i .i64 t.1.conn,.i .i64 t.1.n,.sl 1 (aD t.1.b),.sl 5 (t.2.map bn)]):=by rw[List.getElem?_map,hg0];rfl
   have hset:(r.map fK).set i (.agg [.i .i64 t.1.kind,.i .i64 t.1.conn,.i .i64 t.1.n,.sl 1 (aD t.1.b),.sl 5 ((t.2.filter dN).map bn)])=(r.set i (mV t)).map fK:=by rw[List.map_set];rfl
   have c2:=Ah t.1.b hok.b;have c3:=Hw t.2 hok.l hok.a;refine ad (ad (bh i rfl hlt (az hg (ah c2 (ah c3 (bh i rfl hlt (ax hg (And.intro (dY (by kernel_rfl)) (ar ⟨by omega,by omega⟩ ?_)))))))));apply aG (i+1) [(16,_)] (by omega) (by omega);rw[←hs0];((repeat' constructor)<;>(first|refine aI ?_|rfl)<;>first|exact oT|skip);all_goals exact congrArg _ hset
  ·obtain rfl:i=m.length:=by omega
   rw[ND,List.drop_length,List.append_nil];refine ad ?_;rfl
theorem N5 (e:Ev):ay (CG G) 37 [bH e] [.b (dv e)]:=by
 have h1:=N8 e.conn;unfold dv;unfold bH;generalize oL e.conn=k at h1⊢;by_cases a:e.kind=8
 ·refine mD 16 Tryz.func37 ?_;repeat refine ad ?_
  refine aj a ?_;repeat refine ad ?_
  refine congrArg (fun x=>[D.b x]) ?_;simp[a]
 ·by_cases b:e.kind=9
  ·refine mD 16 Tryz.func37 ?_;repeat refine ad ?_
   refine ai a ?_;refine aj b ?_;repeat refine ad ?_
   refine congrArg (fun x=>[D.b x]) ?_;simp[b]
  ·refine mD 16 Tryz.func37 ?_;repeat refine ad ?_
   refine ai a ?_;refine ai b ?_;refine ah h1 ?_;repeat refine ad ?_
   refine congrArg (fun x=>[D.b x]) ?_;simp[a,b]
theorem Of (l:List Ev)(hl:l.length*48≤140737488355328):ay (CG G) 14 [.sl 4 (l.map bH)] [.sl 4 ((l.filter dv).map bH)]:=by
 have hml:(l.map bH).length=l.length:=by simp
 skip;refine mD 24 Tryz.func14 ?_;repeat refine ad ?_
 apply aA (fun i:Nat=>i≤l.length) (fun i=>⟨[(0,.d (.sl 4 (l.map bH))),(3,.os 16),(4,dI (i:Int))],[(16,some (.buf 4 (((l.take i).filter dv).map bH)))],2⟩) (fun i=>l.length-i) 0 (Nat.zero_le _) [(16,_)];·exact aF
 ·rintro i hi;have hfl:=GR l dv i;repeat refine ad ?_
  refine ae (fun h1=>?_) (fun h1=>?_)
  ·have hi':i<l.length:=by omega
   have hs:=E8 l dv i hi';have hg:(l.map bH)[i]?=some (.agg [.i .i64 l[i].kind,.i .i64 l[i].conn,.i .i64 l[i].n,.sl 1 (aD l[i].b)]):=Bi hi';have c1:=N5 l[i];generalize l[i]=e at c1 hs hg;have ek:dv e=dv e:=rfl;rw[ek] at hs;unfold bH at c1;generalize dv e=b at c1 hs;cases b
   ·repeat refine ad ?_
    refine ao i rfl hg ?_;repeat refine ad ?_
    refine ah c1 ?_;repeat refine ad ?_
    refine aq ?_;apply aG (i+1) [(16,_)] (by omega) (by omega);rw[hs];((repeat' constructor)<;>(first|refine aI ?_|rfl)<;>first|exact oT|skip);all_goals simp
   ·repeat refine ad ?_
    refine ao i rfl hg ?_;repeat refine ad ?_
    refine ah c1 ?_;repeat refine ad ?_
    refine ao i rfl hg ?_;refine mj (by simp only[Nl,Nb,Nf];omega) (by show _*48≤_;simp only[Nl,Nb,Nf];omega) ?_;repeat'(first|refine ad ?_|refine dk ?_)
    refine aq ?_;apply aG (i+1) [(16,_)] (by omega) (by omega);rw[hs];((repeat' constructor)<;>(first|refine aI ?_|rfl)<;>first|exact oT|skip);all_goals simp
    all_goals rfl
  ·obtain rfl:i=l.length:=by omega
   rw[ND];repeat refine ad ?_
   rfl
theorem N1 (l:List bC)(hl:l.length*56≤140737488355328):ay (CG G) 20 [.sl 5 (l.map bn)] [.sl 5 ((l.filter dN).map bn)]:=by
 have hml:(l.map bn).length=l.length:=by simp
 skip;refine mD 25 Tryz.func20 ?_;repeat refine ad ?_
 apply aA (fun i:Nat=>i≤l.length) (fun i=>⟨[(0,.d (.sl 5 (l.map bn))),(3,.os 16),(4,dI (i:Int))],[(16,some (.buf 5 (((l.take i).filter dN).map bn)))],2⟩) (fun i=>l.length-i) 0 (Nat.zero_le _) [(16,_)];·exact aF
 ·rintro i hi;have hfl:=GR l dN i;repeat refine ad ?_
  refine ae (fun h1=>?_) (fun h1=>?_)
  ·have hi':i<l.length:=by omega
   have hs:=E8 l dN i hi';have hg:(l.map bn)[i]?=some (.agg [.i .i64 l[i].kind,.i .i64 l[i].conn,.i .i64 l[i].cls,.i .i64 l[i].n,.sl 1 (aD l[i].b)]):=bX hi';have c1:=N8 l[i].conn;generalize l[i]=e at c1 hs hg;have ek:dN e=oL e.conn:=rfl;rw[ek] at hs;generalize oL e.conn=b at c1 hs;cases b
   ·repeat refine ad ?_
    refine ao i rfl hg ?_;repeat refine ad ?_
    refine ah c1 ?_;repeat refine ad ?_
    refine aq ?_;apply aG (i+1) [(16,_)] (by omega) (by omega);rw[hs];((repeat' constructor)<;>(first|refine aI ?_|rfl)<;>first|exact oT|skip);all_goals simp
   ·repeat refine ad ?_
    refine ao i rfl hg ?_;repeat refine ad ?_
    refine ah c1 ?_;repeat refine ad ?_
    refine ao i rfl hg ?_;refine mj (by simp only[Nl,Nb,Nf];omega) (by show _*56≤_;simp only[Nl,Nb,Nf];omega) ?_;repeat'(first|refine ad ?_|refine dk ?_)
    refine aq ?_;apply aG (i+1) [(16,_)] (by omega) (by omega);rw[hs];((repeat' constructor)<;>(first|refine aI ?_|rfl)<;>first|exact oT|skip);all_goals simp
    all_goals rfl
  ·obtain rfl:i=l.length:=by omega
   rw[ND];repeat refine ad ?_
   rfl
theorem Oj (l:List tM)(hl:l.length*72≤140737488355328)(hb:∀t,t∈l→t.Ok):ay (CG G) 17 [.sl 5 (l.map fK)] [.sl 5 ((iG l).map fK)]:=by
 have hml:(l.map fK).length=l.length:=by simp
 unfold iG;refine mD 33 Tryz.func17 ?_;repeat refine ad ?_
 apply aA (fun i:Nat=>i≤l.length) (fun i=>⟨[(0,.d (.sl 5 (l.map fK))),(3,.os 16),(4,dI (i:Int))],[(16,some (.buf 5 ((((l.take i).filter dC).map mV).map fK)))],2⟩) (fun i=>l.length-i) 0 (Nat.zero_le _) [(16,_)];·exact aF
 ·rintro i hi;have hfl:=GR l dC i;repeat refine ad ?_
  refine ae (fun h1=>?_) (fun h1=>?_)
  ·have hi':i<l.length:=by omega
   have hs:=E8 l dC i hi';have hg:(l.map fK)[i]?=some (.agg [.i .i64 l[i].1.kind,.i .i64 l[i].1.conn,.i .i64 l[i].1.n,.sl 1 (aD l[i].1.b),.sl 5 (l[i].2.map bn)]):=Ks hi';have c1:=N5 l[i].1;have c3:=N1 l[i].2 (hb _ (Nr hi')).l;generalize l[i]=e at c1 c3 hs hg;have ek:dC e=dv e.1:=rfl;rw[ek] at hs;unfold bH at c1;generalize dv e.1=b at c1 hs;cases b
   ·repeat refine ad ?_
    refine ao i rfl hg ?_;repeat refine ad ?_
    refine ah c1 ?_;repeat refine ad ?_
    refine aq ?_;apply aG (i+1) [(16,_)] (by omega) (by omega);rw[hs];((repeat' constructor)<;>(first|refine aI ?_|rfl)<;>first|exact oT|skip);all_goals simp
   ·repeat refine ad ?_
    refine ao i rfl hg ?_;repeat refine ad ?_
    refine ah c1 ?_;repeat refine ad ?_
    refine ao i rfl hg ?_;refine ao i rfl hg ?_;repeat refine ad ?_
    refine ah c3 ?_;refine mj (by simp only[Nl,Nb,Nf];omega) (by show _*72≤_;simp only[Nl,Nb,Nf];omega) ?_;repeat'(first|refine ad ?_|refine dk ?_)
    refine aq ?_;apply aG (i+1) [(16,_)] (by omega) (by omega);rw[hs];((repeat' constructor)<;>(first|refine aI ?_|rfl)<;>first|exact oT|skip);all_goals simp
    all_goals rfl
  ·obtain rfl:i=l.length:=by omega
   rw[ND];repeat refine ad ?_
   rfl
theorem B5 (e:Ev):ay (CG G) 33 [bH e,bH e] [.b true]:=by unfold bH;refine ay.mk (n:=33) Tryz.func33 rfl rfl rfl (Nat.le_of_ble_eq_true rfl) (aj rfl (aj rfl (aj rfl (cy e.b rfl (cy e.b rfl (aj rfl ?_))))));rfl
theorem JA (l:List Ev)(hl:l.length*48≤140737488355328):ay (CG G) 12 [.sl 4 (l.map bH),.sl 4 (l.map bH)] [.b true]:=by
 have hml:(l.map bH).length=l.length:=by simp
 refine ay.mk (n:=27) Tryz.func12 rfl rfl rfl (Nat.le_of_ble_eq_true rfl) (ad (ai (fun h=>h rfl) (ad ?_)));apply aA (fun i:Nat=>i≤l.length) (fun i=>⟨[(0,.d (.sl 4 (l.map bH))),(1,.d (.sl 4 (l.map bH))),(5,dI (i:Int))],[],2⟩) (fun i=>l.length-i) 0 (Nat.zero_le _) [];·exact aF
 ·rintro i hi;refine ad ?_;refine ae (fun h1=>?_) (fun h1=>?_)
  ·have hi':i<l.length:=by omega
   have hg:(l.map bH)[i]?=some (.agg [.i .i64 l[i].kind,.i .i64 l[i].conn,.i .i64 l[i].n,.sl 1 (aD l[i].b)]):=Bi hi';have c1:=B5 l[i];unfold bH at c1;generalize l[i]=e at c1 hg;refine ad (ao i rfl hg (ao i rfl hg (ah c1 (And.intro (dY (by kernel_rfl)) (ar ⟨by omega,by omega⟩ ?_)))));apply aG (i+1) [] (by omega) (by omega);exact aF
  ·obtain rfl:i=l.length:=by omega
   rfl
theorem H2 (l:List bC)(hl:l.length*56≤140737488355328):ay (CG G) 18 [.sl 5 (l.map bn),.sl 5 (l.map bn)] [.b true]:=by
 have hml:(l.map bn).length=l.length:=by simp
 refine ay.mk (n:=82) Tryz.func18 rfl rfl rfl (Nat.le_of_ble_eq_true rfl) (ad (ai (fun h=>h rfl) (ad ?_)));apply aA (fun i:Nat=>i≤l.length) (fun i=>⟨[(0,.d (.sl 5 (l.map bn))),(1,.d (.sl 5 (l.map bn))),(5,dI (i:Int))],[],2⟩) (fun i=>l.length-i) 0 (Nat.zero_le _) [];·exact aF
 ·rintro i hi;refine ad ?_;refine ae (fun h1=>?_) (fun h1=>?_)
  ·have hi':i<l.length:=by omega
   have hg:(l.map bn)[i]?=some (.agg [.i .i64 l[i].kind,.i .i64 l[i].conn,.i .i64 l[i].cls,.i .i64 l[i].n,.sl 1 (aD l[i].b)]):=bX hi';generalize l[i]=e at hg;refine ad (ao i rfl hg (ao i rfl hg (ai (fun h=>h rfl) (ao i rfl hg (ao i rfl hg (ai (fun h=>h rfl) (ao i rfl hg (ao i rfl hg (ai (fun h=>h rfl) (ao i rfl hg (ao i rfl hg ?_)))))))))));refine ai (fun h=>h rfl) (ao i rfl hg (cy e.b rfl (ao i rfl hg (cy e.b rfl (ai (fun h=>h rfl) (And.intro (dY (by kernel_rfl)) (ar ⟨by omega,by omega⟩ ?_)))))));apply aG (i+1) [] (by omega) (by omega);exact aF
  ·obtain rfl:i=l.length:=by omega
   rfl
theorem I3 (l:List tM)(hl:l.length*72≤140737488355328)(hb:∀t,t∈l→t.2.length*56≤140737488355328):ay (CG G) 15 [.sl 5 (l.map fK),.sl 5 (l.map fK)] [.b true]:=by
 have hml:(l.map fK).length=l.length:=by simp
 refine ay.mk (n:=43) Tryz.func15 rfl rfl rfl (Nat.le_of_ble_eq_true rfl) (ad (ai (fun h=>h rfl) (ad ?_)));apply aA (fun i:Nat=>i≤l.length) (fun i=>⟨[(0,.d (.sl 5 (l.map fK))),(1,.d (.sl 5 (l.map fK))),(5,dI (i:Int))],[],2⟩) (fun i=>l.length-i) 0 (Nat.zero_le _) [];·exact aF
 ·rintro i hi;refine ad ?_;refine ae (fun h1=>?_) (fun h1=>?_)
  ·have hi':i<l.length:=by omega
   have hg:(l.map fK)[i]?=some (.agg [.i .i64 l[i].1.kind,.i .i64 l[i].1.conn,.i .i64 l[i].1.n,.sl 1 (aD l[i].1.b),.sl 5 (l[i].2.map bn)]):=Ks hi';have c1:=B5 l[i].1;have c3:=H2 l[i].2 (hb _ (Nr hi'));unfold bH at c1;generalize l[i]=e at c1 c3 hg;refine ad (ao i rfl hg (ao i rfl hg (ah c1 (ao i rfl hg (ao i rfl hg (ah c3 (And.intro (dY (by kernel_rfl)) (ar ⟨by omega,by omega⟩ ?_))))))));apply aG (i+1) [] (by omega) (by omega);exact aF
  ·obtain rfl:i=l.length:=by omega
   rfl
theorem IY (l:List Int)(h:l.length≤68719476736):ay (CG G) 29 [.sl 1 (l.map (.i .i64))] [.sl 1 (l.map (.i .i64))]:=by
 have hl:(l.map (D.i .i64)).length=l.length:=by simp
 refine ay.mk (n:=8) Tryz.func29 rfl rfl rfl (Nat.le_of_ble_eq_true rfl) (ad ?_);refine pN (fun h0=>?_) (fun h0=>?_)
 ·refine Lh ?_ ?_;·rw[h0];rfl
  ·refine aB (by simp;omega) ?_;rfl
 ·refine aB (by simp;omega) ?_;rfl
theorem LL (c:bk)(h1:c.plan.ws.length≤68719476736)(h2:c.ignore.length≤68719476736):ay (CG G) 9 [di c] [di {c with mirror:=false}]:=by have c1:=IY c.plan.ws h1;have c2:=Iw c.ignore h2;unfold bP at c2;unfold di bi;refine ay.mk (n:=15) Tryz.func9 rfl rfl rfl (Nat.le_of_ble_eq_true rfl) (ah c1 (ah c2 (And.intro (dY (by kernel_rfl)) ?_)));rfl
def cfgNo:bk:=⟨0,0,0,0,0,0,0,0,0,0,0,0,0,0,0,0,⟨[],0,0,0,0,0⟩,[],[],true,[]⟩
theorem MH:ay (CG G) 21 [] [.b true]:=by have c1:=uN [⟨8,3000001,0,[]⟩,⟨3,3000001,0,[]⟩,⟨3,5,0,[]⟩] (by decide) (by simp);have e1:[(⟨8,3000001,0,[]⟩:Ev),⟨3,3000001,0,[]⟩,⟨3,5,0,[]⟩].filter dv=[⟨8,3000001,0,[]⟩,⟨3,5,0,[]⟩]:=rfl;rw[e1] at c1;have k1:=xT 5;have k2:=xT 3000001;have k3:=xT 200001;rw[show oL 5=true by decide] at k1;rw[show oL 3000001=false by decide] at k2;rw[show oL 200001=false by decide] at k3;have c2:=LL cfgNo (by decide) (by decide);refine ay.mk (n:=27) Tryz.func21 rfl rfl rfl (Nat.le_of_ble_eq_true rfl) (ah c1 (ah k1 (ah k2 (ah k3 (aj (by decide) (ah c2 ?_))))));rfl
theorem BR {α:Type}(l:List α)(f:α→Bool):(l.filter f).filter f=l.filter f:=List.filter_eq_self.2 fun _ ha=>(List.mem_filter.1 ha).2
theorem DR (t:tM):mV (mV t)=mV t:=by unfold mV;rw[BR]
theorem sQ (l:List tM):iG (iG l)=iG l:=by
 unfold iG;have h:((l.filter dC).map mV).filter dC=(l.filter dC).map mV:=by refine List.filter_eq_self.2 fun t ht=>?_;obtain⟨u,hu,rfl⟩:=List.mem_map.1 ht;exact(List.mem_filter.1 hu).2
 rw[h,List.map_map];exact List.map_congr_left fun t _=>DR t
theorem wk:∀(l:List Ev)(p:aU),(jW p l).map Prod.fst=l|[],_=>rfl|x::l,p=>by rw[jW,Nw,wk l]
theorem Bl:∀(l:List tM),(l.filter dC).length=((l.map Prod.fst).filter dv).length
 |[]=>rfl|t::l=>by
  have:=Bl l;have e:dC t=dv t.1:=rfl;rw[Nw,List.filter_cons,List.filter_cons,e];cases dv t.1;·simpa using this
  ·simpa using this
theorem z7 (l:List Ev)(p:aU):(iG (jW p l)).length=(l.filter dv).length:=by unfold iG;rw[Nl,Bl,wk]
theorem wc {P:bC→Prop}:∀(l o:List bC),(∀a,a∈l→P a)→(∀a,a∈o→P a)→∀a,a∈l.foldl rN o→P a
 |[],_,_,h=>h|x::l,o,h1,h2=>wc l _ (fun a ha=>h1 a (by simp[ha])) (by
 intro a ha;unfold rN at ha;rcases Np.1 ha with ha|ha
 ·rcases Np.1 ha with ha|ha;·exact h2 a (List.mem_of_mem_take ha)
  ·rw[Nx.1 ha];exact h1 x (by simp)
 ·exact h2 a (List.mem_of_mem_drop ha))
theorem Gf {c:bk}{p:aU}{t:Nat}(h:p.I c t)(hM:jK c)(ht:t≤99)(e:Ev)(hn:fT e.n):(hH p e).length≤900000000∧∀a,a∈hH p e→a.b.length≤60000000000:=by have hb:=(pD h hM ht e hn).b;refine⟨by unfold hH;rw[rZ];exact hb.ol,?_⟩;exact wc _ _ hb.ob (fun a ha=>by cases ha)
theorem B2 {c:bk}(hM:jK c):∀(l:List Ev){p:aU}{t:Nat},p.I c t→t+l.length≤99→(∀e,e∈l→e.Ok)→∀x,x∈jW p l→x.Ok
 |[],p,t,h,_,_=>fun x hx=>by cases hx;|e::l,p,t,h,hl,ho=>by
  intro x hx;rw[Nb] at hl;have he:=ho e (by simp);rw[jW] at hx;rcases List.mem_cons.1 hx with rfl|hx;·obtain⟨h1,h2⟩:=Gf h hM (by omega) e he.1;exact⟨by have:=he.2;show e.b.length≤_;omega,by show(hH p e).length*56≤_;omega,fun a ha=>by have:=h2 a ha;omega⟩
  ·exact B2 hM l (jB h hM (by omega) e he.1) (by omega) (fun y hy=>ho y (by simp[hy])) x hx
theorem tM.Ok.f {t:tM}(h:t.Ok):(mV t).Ok:=⟨h.b,by have:=h.l;have:=NC dN t.2;show(t.2.filter dN).length*56≤_;omega,fun a ha=>h.a a (List.mem_filter.1 ha).1⟩
theorem DF {l:List tM}(h:∀t,t∈l→t.Ok):∀t,t∈iG l→t.Ok:=by intro t ht;obtain⟨u,hu,rfl⟩:=List.mem_map.1 ht;exact(h u (List.mem_filter.1 hu).1).f
abbrev N3 (c:bk)(p:aU)(nx:Int)(ev:List Ev)(st:List fk):aS:=.box [dI c.maxHead,dI c.maxBody,dI c.maxReply,dI c.cin,dI c.cout,dI c.clients,dI c.admins,dI c.listeners,dI c.stable,dI c.canary,dI c.shadow,dI c.tee,dI c.idle,dI c.reqd,dI c.shadd,dI c.reports,.d (.sl 1 (c.plan.ws.map (.i .i64))),dI c.plan.ms,dI c.plan.nu,dI c.plan.de,dI c.plan.ho,dI c.plan.wi,.d (.s c.salt),.d (.s c.cookie),.d (.b c.mirror),.d (.sl 1 (c.ignore.map .s)),dI p.cfg.maxHead,dI p.cfg.maxBody,dI p.cfg.maxReply,dI p.cfg.cin,dI p.cfg.cout,dI p.cfg.clients,dI p.cfg.admins,dI p.cfg.listeners,dI p.cfg.stable,dI p.cfg.canary,dI p.cfg.shadow,dI p.cfg.tee,dI p.cfg.idle,dI p.cfg.reqd,dI p.cfg.shadd,dI p.cfg.reports,.d (.sl 1 (p.cfg.plan.ws.map (.i .i64))),dI p.cfg.plan.ms,dI p.cfg.plan.nu,dI p.cfg.plan.de,dI p.cfg.plan.ho,dI p.cfg.plan.wi,.d (.s p.cfg.salt),.d (.s p.cfg.cookie),.d (.b p.cfg.mirror),.d (.sl 1 (p.cfg.ignore.map .s)),dI p.now,dI p.draw,dI p.ser,dI p.ro.st,dI p.ro.sg,dI p.ro.he,dI p.ro.tt,dI p.ro.er,dI p.ro.ag,.d (.sl 65 (p.cls.map dU)),.d (.sl 33 (p.ups.map fo)),dI p.sta.ba,dI p.sta.qu,dI p.sta.se,.d (.sl 1 (p.sta.id.map (.i .i64))),.d (.sl 1 (p.sta.bu.map (.i .i64))),dI p.can.ba,dI p.can.qu,dI p.can.se,.d (.sl 1 (p.can.id.map (.i .i64))),.d (.sl 1 (p.can.bu.map (.i .i64))),dI p.sh.pool.ba,dI p.sh.pool.qu,dI p.sh.pool.se,.d (.sl 1 (p.sh.pool.id.map (.i .i64))),.d (.sl 1 (p.sh.pool.bu.map (.i .i64))),.d (.sl 55 (p.sh.jobs.map bI)),dI p.sh.rep.cap,dI p.sh.rep.ser,.d (.sl 6 (p.sh.rep.l.map NH)),.d (.sl 4 (ev.map bH)),.d (.sl 2 (st.map NP)),dI nx]
theorem sB (l:List Int)(hl:l.length≤9223372036854775807):ay (CG G) 4 [ft l] [.b true]:=by
 obtain⟨c,p,ev,st,nx,hP,cP⟩:=Oh l hl 40 (by omega);have cN:=Om c hP.cf.m.ok;have hI:=Ol hP.cf;have hev:=hP.len;have hok:=hP.ok;have cR:=Oi (iz c) ev hI hP.cf.m (by omega) hok;have hT:=B2 hP.cf.m ev hI (by omega) hok;have hTl:=rA ev (iz c);have hlen:=z7 ev (iz c);generalize jW (iz c) ev=ts at cR hT hTl hlen;generalize bO (iz c) ev=q at cR;generalize iz c=p1 at cN cR;have cE:=uN ev (by omega) (fun e he=>by have:=(hok e he).2;omega);have cT:=Hi ts (by omega) hT;have hT2:=DF hT;have e2:=sQ ts;have e1:=BR ev dv;have hal:=NC dv ev;have hab:∀e,e∈ev.filter dv→e.b.length≤140737488355328:=fun e he=>by have:=(hok e (List.mem_filter.1 he).1).2;omega
 generalize ev.filter dv=a at cE e1 hal hab hlen;generalize iG ts=b at cT e2 hT2 hlen;have cE2:=uN a (by omega) hab;rw[e1] at cE2;have cT2:=Hi b (by omega) hT2;rw[e2] at cT2;have s1:=JA a (by omega);have s2:=I3 b (by omega) (fun t ht=>(hT2 t ht).l);have cA:=MH;have hml:(a.map bH).length=(b.map fK).length:=by simp[hlen]
 unfold dw bf di bi at cN;unfold dw bf at cR;refine ay.mk_cut (n:=56) Tryz.func4 rfl rfl rfl (Nat.le_of_ble_eq_true rfl) ⟨[(3,.op 16 0 0)],[(16,some (N3 c p nx ev st))],2⟩ ?_ ?_
 ·refine aT (ak [] cP ?_ ?_);·exact aF
  apply Eng.freeze [(16,_)];exact aF
 ·refine ah cN (ah cR (And.intro (dY (by kernel_rfl)) (ah cE (ah cT (ah cE2 (ah s1 (ah cT2 (ah s2 (aj (by omega) (ah cA ?_))))))))));rfl
end Go.Proofs.YtgfdbddglhblbaaGreat
