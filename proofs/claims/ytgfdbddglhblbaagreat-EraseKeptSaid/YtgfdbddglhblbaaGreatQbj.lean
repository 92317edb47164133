/- A part of the proof of what is stated of the erasing of a mirror. -/
import Derived.Test.YtgfdbddglhblbaaGreatQbi
set_option maxHeartbeats 64000000
namespace Go.Proofs.YtgfdbddglhblbaaGreat
open Go.Eng
attribute [local irreducible] aO
set_option maxRecDepth 100000
theorem kH (c:bk)(p:aU)(ev:List Ev)(st:List fk)(nx:Int)(l:List Int)(i:Nat)(id m:Int){t n b:Nat}(h:p.I c t)(hM:jK c)(ht:t≤99)(hev:ev.length≤100)(hm:0≤m∧m≤1000)(hs:oE st n b)(hnn:n≤50000000000)(hbb:20000≤b∧b≤100000000)(hi:i≤l.length)(hl:l.length≤1000000):∃(e:Ev)(st':List fk)(i':Nat),e.n=0∧e.b.length≤1000∧oE st' (n+900000000) b∧i'≤l.length∧aH (CG G) 47 [.op 0 0 0,.op 1 0 0,dI id,dI m] (eR c p ev st nx l i) [] (mU c (b8 p e) (ev++[e]) st' nx l i'):=by
 have hsn:=hs.n;have cL:=Ky c p ev st nx id (by omega);generalize qo st id=d at cL;have hdl:=aK d;have hmn:min m (((aD d).length:Nat):Int)=((min m.toNat (aD d).length:Nat):Int):=by omega
 have hbl:(d.take (min m.toNat (aD d).length)).length≤1000:=by rw[Nj];omega
 obtain⟨st',i',hs',hi',cD⟩:=doE c p ev st nx l i ⟨2,id,0,d.take (min m.toNat (aD d).length)⟩ h hM ht hev ⟨by show(-_:Int)≤0;omega,by show(0:Int)≤_;omega⟩ (Nat.le_trans hbl (by decide)) hs hnn hbb hi hl;refine⟨⟨2,id,0,d.take (min m.toNat (aD d).length)⟩,st',i',rfl,hbl,hs',hi',?_⟩;generalize b8 p _=p' at cD⊢;unfold bH at cD;dsimp only at cD;refine mH 25 Tryz.func47 ?_;repeat'(first|refine ad ?_|refine dk ?_|refine ae (fun _=>?_) (fun _=>?_)|refine aq ?_)
 apply ak [(0,_),(2,_),(3,_)] cL;·exact aF
 refine bnd (min m.toNat (aD d).length) hmn (by omega) (aB (by simp;omega) ?_);apply ak [(0,_),(1,_),(2,_),(3,_)] cD;·((repeat' constructor)<;>(first|refine aI ?_|rfl)<;>first|exact oT|skip);all_goals (rw[List.nil_append,dT])
 repeat'(first|refine ad ?_|refine dk ?_|refine ae (fun _=>?_) (fun _=>?_)|refine aq ?_)
 apply aw [(16,_),(17,_)];exact aF
theorem kX {α β:Type}(l:List α)(f:α→List β)(i:Nat)(h:i<l.length):((l.take (i+1)).map f).flatten=((l.take i).map f).flatten++f l[i]:=by rw[Nh h];simp only[Ng,List.flatten_append,Nw,List.map_nil,List.flatten_cons,List.flatten_nil,List.append_nil]
theorem qz {α β:Type}(l:List α)(f:α→List β)(n:Nat)(h:∀x,(f x).length≤n):(l.map f).flatten.length≤n*l.length:=by induction l with|nil=>simp;|cons a l ih=>have:=h a;simp only[Nw,List.flatten_cons,Na,Nb,Nat.mul_add];omega
def cl1F (c:Cl):List Int:=[c.po.id]
def up2F (u:Up):List Int:=[u.po.id,u.po.id]
def CQ (j:cX):List Int:=if j.conn=0 then[] else[j.conn]
theorem jb1_l (j:cX):(CQ j).length≤1:=by unfold CQ;split<;>simp
def Al (p:aU)(i:Nat):List Int:=((p.cls.take i).map cl1F).flatten
def yq (p:aU)(i:Nat):List Int:=Al p p.cls.length++((p.ups.take i).map up2F).flatten
def ij (p:aU)(i:Nat):List Int:=yq p p.ups.length++((p.sh.jobs.take i).map CQ).flatten
theorem FX (p:aU)(i:Nat):(Al p i).length≤p.cls.length:=by have:=qz (p.cls.take i) cl1F 1 (fun x=>Nat.le_refl _);unfold Al;rw[Nj] at this;omega
theorem EV (p:aU)(i:Nat):(yq p i).length≤p.cls.length+2*p.ups.length:=by have:=qz (p.ups.take i) up2F 2 (fun x=>Nat.le_refl _);have:=FX p p.cls.length;unfold yq;rw[Na];rw[Nj] at*;omega
theorem L0 (p:aU)(i:Nat):(ij p i).length≤p.cls.length+2*p.ups.length+p.sh.jobs.length:=by have:=qz (p.sh.jobs.take i) CQ 1 jb1_l;have:=EV p p.ups.length;unfold ij;rw[Na];rw[Nj] at*;omega
theorem Mq (p:aU)(i:Nat)(h:i<p.cls.length):(Al p (i+1)).map (D.i .i64)=(Al p i).map (D.i .i64)++[.i .i64 p.cls[i].po.id]:=by unfold Al;rw[kX _ _ _ h,Ng];rfl
theorem M0 (p:aU)(i:Nat)(h:i<p.ups.length):(yq p (i+1)).map (D.i .i64)=(yq p i).map (D.i .i64)++[.i .i64 p.ups[i].po.id,.i .i64 p.ups[i].po.id]:=by unfold yq;rw[kX _ _ _ h,←List.append_assoc,Ng];rfl
theorem Mc (p:aU)(i:Nat)(h:i<p.sh.jobs.length)(h0:p.sh.jobs[i].conn≠0):(ij p (i+1)).map (D.i .i64)=(ij p i).map (D.i .i64)++[.i .i64 p.sh.jobs[i].conn]:=by unfold ij;rw[kX _ _ _ h,←List.append_assoc,Ng];unfold CQ;rw[if_neg h0];rfl
theorem Mz (p:aU)(i:Nat)(h:i<p.sh.jobs.length)(h0:p.sh.jobs[i].conn=0):ij p (i+1)=ij p i:=by unfold ij;rw[kX _ _ _ h,←List.append_assoc];unfold CQ;rw[if_pos h0,List.append_nil]
theorem mA (c:bk)(p:aU)(ev:List Ev)(st:List fk)(nx:Int)(l:List Int)(i:Nat)(h1:p.cls.length≤1000000)(h2:p.ups.length≤1000000)(h3:p.sh.jobs.length≤1000000)(hi:i≤l.length)(hl:l.length≤1000000):∃(id:Int)(i':Nat),i'≤l.length∧aH (CG G) 67 [.op 0 0 0,.op 1 0 0] (eR c p ev st nx l i) [dI id] (eR c p ev st nx l i'):=by
 have q1:(p.cls.map dU).length=p.cls.length:=by simp
 have q2:(p.ups.map fo).length=p.ups.length:=by simp
 have q3:(p.sh.jobs.map bI).length=p.sh.jobs.length:=by simp
 have hA:=FX p;have hB:=EV p;have hC:=L0 p;have hCf:=hC p.sh.jobs.length;have hml:((ij p p.sh.jobs.length).map (D.i .i64)).length=(ij p p.sh.jobs.length).length:=by simp
 obtain⟨id,i',hi',hsel⟩:∃(id:Int)(i':Nat),i'≤l.length∧(((((ij p p.sh.jobs.length).map (D.i .i64)).length:Int)=0∧id=1∧i'=i)∨(¬((((ij p p.sh.jobs.length).map (D.i .i64)).length:Int)=0)∧∃r:Nat,((ij p p.sh.jobs.length).map (D.i .i64))[r]?=some (.i .i64 id)∧r<((ij p p.sh.jobs.length).map (D.i .i64)).length∧aH (CG G) 42 [.op 0 0 0,dI (((ij p p.sh.jobs.length).map (D.i .i64)).length:Int)] (aE l i) [dI (r:Int)] (aE l i'))):=by
  by_cases h0:(((ij p p.sh.jobs.length).map (D.i .i64)).length:Int)=0;·exact⟨1,i,hi,.inl ⟨h0,rfl,rfl⟩⟩
  ·obtain⟨r,i',hr,hi',cN⟩:∃(r i':Nat),(r:Int)<(((ij p p.sh.jobs.length).map (D.i .i64)).length:Int)∧i'≤l.length∧aH (CG G) 42 [.op 0 0 0,dI (((ij p p.sh.jobs.length).map (D.i .i64)).length:Int)] (aE l i) [dI (r:Int)] (aE l i'):=⟨_,_,cB l i _ (by omega),(b6 hi).2,ip l i _ hi (by omega) ⟨by omega,by omega⟩⟩;have hr':r<(ij p p.sh.jobs.length).length:=by omega
   exact⟨(ij p p.sh.jobs.length)[r],i',hi',.inr ⟨h0,r,by simp[hr'],by omega,cN⟩⟩
 refine⟨id,i',hi',?_⟩;refine aH.mk (n:=110) Tryz.func67 rfl rfl rfl (Nat.le_of_ble_eq_true rfl) rfl (ad ?_);apply aA (fun k:Nat=>k≤p.cls.length) (fun k=>⟨[(0,.op 0 0 0),(1,.op 1 0 0),(5,.os 16),(6,dI (k:Int))],(16,some (.buf 1 ((Al p k).map (D.i .i64))))::eR c p ev st nx l i,2⟩) (fun k=>p.cls.length-k) 0 (Nat.zero_le _) [(16,_)];·exact aF
 ·rintro k hk;refine ad ?_;refine ae (fun g1=>?_) (fun g1=>?_)
  ·have hk':k<p.cls.length:=by omega
   have:=hA k;refine ad (ao k rfl (BS hk') (aB (by simp;omega) ?_));repeat'(first|refine ad ?_|refine dk ?_|refine ae (fun _=>?_) (fun _=>?_)|refine aq ?_)
   apply aG (k+1) [(16,_)] (by omega) (by omega);((repeat' constructor)<;>(first|refine aI ?_|rfl)<;>first|exact oT|skip);all_goals rw[Mq p k hk']
  ·obtain rfl:k=p.cls.length:=by omega
   refine ad ?_;apply aA (fun k:Nat=>k≤p.ups.length) (fun k=>⟨[(0,.op 0 0 0),(1,.op 1 0 0),(5,.os 16),(7,dI (k:Int))],(16,some (.buf 1 ((yq p k).map (D.i .i64))))::eR c p ev st nx l i,2⟩) (fun k=>p.ups.length-k) 0 (Nat.zero_le _) [(16,_)];·((repeat' constructor)<;>(first|refine aI ?_|rfl)<;>first|exact oT|skip);all_goals simp[yq]
   ·rintro k hk;refine ad ?_;refine ae (fun g2=>?_) (fun g2=>?_)
    ·have hk':k<p.ups.length:=by omega
     have:=hB k;refine ad (ao k rfl (wS hk') (ao k rfl (wS hk') (aB (by simp;omega) ?_)));repeat'(first|refine ad ?_|refine dk ?_|refine ae (fun _=>?_) (fun _=>?_)|refine aq ?_)
     apply aG (k+1) [(16,_)] (by omega) (by omega);((repeat' constructor)<;>(first|refine aI ?_|rfl)<;>first|exact oT|skip);all_goals rw[M0 p k hk']
    ·obtain rfl:k=p.ups.length:=by omega
     refine ad ?_;apply aA (fun k:Nat=>k≤p.sh.jobs.length) (fun k=>⟨[(0,.op 0 0 0),(1,.op 1 0 0),(5,.os 16),(8,dI (k:Int))],(16,some (.buf 1 ((ij p k).map (D.i .i64))))::eR c p ev st nx l i,2⟩) (fun k=>p.sh.jobs.length-k) 0 (Nat.zero_le _) [(16,_)];·((repeat' constructor)<;>(first|refine aI ?_|rfl)<;>first|exact oT|skip);all_goals simp[ij]
     ·rintro k hk;refine ad ?_;refine ae (fun g3=>?_) (fun g3=>?_)
      ·have hk':k<p.sh.jobs.length:=by omega
       have:=hC k;refine ad (ao k rfl (j7 hk') ?_);refine ae (fun z=>?_) (fun z=>?_)
       ·have z':p.sh.jobs[k].conn≠0:=z;refine ao k rfl (j7 hk') (aB (by simp;omega) ?_);repeat'(first|refine ad ?_|refine dk ?_|refine ae (fun _=>?_) (fun _=>?_)|refine aq ?_)
        apply aG (k+1) [(16,_)] (by omega) (by omega);((repeat' constructor)<;>(first|refine aI ?_|rfl)<;>first|exact oT|skip);all_goals rw[Mc p k hk' z']
       ·have z':p.sh.jobs[k].conn=0:=by omega
        repeat'(first|refine ad ?_|refine dk ?_|refine ae (fun _=>?_) (fun _=>?_)|refine aq ?_)
        apply aG (k+1) [(16,_)] (by omega) (by omega);((repeat' constructor)<;>(first|refine aI ?_|rfl)<;>first|exact oT|skip);all_goals rw[Mz p k hk' z']
      ·obtain rfl:k=p.sh.jobs.length:=by omega
       refine ad ?_;rcases hsel with⟨k0,rfl,rfl⟩|⟨k0,r,hr1,hr2,cN⟩
       ·refine aj k0 ?_;repeat'(first|refine ad ?_|refine dk ?_|refine ae (fun _=>?_) (fun _=>?_)|refine aq ?_)
        apply aw [];exact aF
       ·refine ai k0 ?_;refine ak [(0,1)] cN ?_ ?_;·(try simp only[aE]);exact aF
        refine bh r rfl hr2 (az hr1 ?_);repeat'(first|refine ad ?_|refine dk ?_|refine ae (fun _=>?_) (fun _=>?_)|refine aq ?_)
        apply aw [];exact aF
def clU (u:Up):List Int:=if u.opn then[] else[u.po.id]
def Kx (j:cX):List Int:=if j.conn=0∨j.opn=true then[] else[j.conn]
theorem clU_l (u:Up):(clU u).length≤1:=by unfold clU;split<;>simp
theorem clJ_l (j:cX):(Kx j).length≤1:=by unfold Kx;split<;>simp
def DJ (p:aU)(i:Nat):List Int:=((p.ups.take i).map clU).flatten
def jb (p:aU)(i:Nat):List Int:=DJ p p.ups.length++((p.sh.jobs.take i).map Kx).flatten
theorem Hs (p:aU)(i:Nat):(DJ p i).length≤p.ups.length:=by have:=qz (p.ups.take i) clU 1 clU_l;unfold DJ;rw[Nj] at this;omega
theorem MB (p:aU)(i:Nat):(jb p i).length≤p.ups.length+p.sh.jobs.length:=by have:=qz (p.sh.jobs.take i) Kx 1 clJ_l;have:=Hs p p.ups.length;unfold jb;rw[Na];rw[Nj] at*;omega
theorem M4 (p:aU)(i:Nat)(h:i<p.ups.length):DJ p (i+1)=DJ p i++clU p.ups[i]:=kX _ _ _ h
theorem Mo (p:aU)(i:Nat)(h:i<p.sh.jobs.length):jb p (i+1)=jb p i++Kx p.sh.jobs[i]:=by unfold jb;rw[kX _ _ _ h,←List.append_assoc]
theorem BE (c:bk)(p:aU)(ev:List Ev)(st:List fk)(nx:Int)(l:List Int)(i:Nat)(h2:p.ups.length≤1000000)(h3:p.sh.jobs.length≤1000000)(hi:i≤l.length)(hl:l.length≤1000000):∃(id:Int)(i':Nat),i'≤l.length∧aH (CG G) 68 [.op 0 0 0,.op 1 0 0] (eR c p ev st nx l i) [dI id] (eR c p ev st nx l i'):=by
 have q2:(p.ups.map fo).length=p.ups.length:=by simp
 have q3:(p.sh.jobs.map bI).length=p.sh.jobs.length:=by simp
 have hA:=Hs p;have hB:=MB p;have hCf:=hB p.sh.jobs.length;have hml:((jb p p.sh.jobs.length).map (D.i .i64)).length=(jb p p.sh.jobs.length).length:=by simp
 obtain⟨id,i',hi',hsel⟩:∃(id:Int)(i':Nat),i'≤l.length∧(((((jb p p.sh.jobs.length).map (D.i .i64)).length:Int)=0∧id=0∧i'=i)∨(¬((((jb p p.sh.jobs.length).map (D.i .i64)).length:Int)=0)∧∃r:Nat,((jb p p.sh.jobs.length).map (D.i .i64))[r]?=some (.i .i64 id)∧r<((jb p p.sh.jobs.length).map (D.i .i64)).length∧aH (CG G) 42 [.op 0 0 0,dI (((jb p p.sh.jobs.length).map (D.i .i64)).length:Int)] (aE l i) [dI (r:Int)] (aE l i'))):=by
  by_cases h0:(((jb p p.sh.jobs.length).map (D.i .i64)).length:Int)=0;·exact⟨0,i,hi,.inl ⟨h0,rfl,rfl⟩⟩
  ·obtain⟨r,i',hr,hi',cN⟩:∃(r i':Nat),(r:Int)<(((jb p p.sh.jobs.length).map (D.i .i64)).length:Int)∧i'≤l.length∧aH (CG G) 42 [.op 0 0 0,dI (((jb p p.sh.jobs.length).map (D.i .i64)).length:Int)] (aE l i) [dI (r:Int)] (aE l i'):=⟨_,_,cB l i _ (by omega),(b6 hi).2,ip l i _ hi (by omega) ⟨by omega,by omega⟩⟩;have hr':r<(jb p p.sh.jobs.length).length:=by omega
   exact⟨(jb p p.sh.jobs.length)[r],i',hi',.inr ⟨h0,r,by simp[hr'],by omega,cN⟩⟩
 refine⟨id,i',hi',?_⟩;refine aH.mk (n:=99) Tryz.func68 rfl rfl rfl (Nat.le_of_ble_eq_true rfl) rfl (ad ?_);apply aA (fun k:Nat=>k≤p.ups.length) (fun k=>⟨[(0,.op 0 0 0),(1,.op 1 0 0),(5,.os 16),(6,dI (k:Int))],(16,some (.buf 1 ((DJ p k).map (D.i .i64))))::eR c p ev st nx l i,2⟩) (fun k=>p.ups.length-k) 0 (Nat.zero_le _) [(16,_)];·exact aF
 ·rintro k hk;refine ad ?_;refine ae (fun g2=>?_) (fun g2=>?_)
  ·have hk':k<p.ups.length:=by omega
   have:=hA k;have hs:=M4 p k hk';have hg:=wS hk';generalize p.ups[k]=u at hs hg;obtain⟨po,opn,cli,rd⟩:=u;cases opn
   ·refine ad (ao k rfl hg (ao k rfl hg (aB (by simp;omega) ?_)));repeat'(first|refine ad ?_|refine dk ?_|refine ae (fun _=>?_) (fun _=>?_)|refine aq ?_)
    apply aG (k+1) [(16,_)] (by omega) (by omega);((repeat' constructor)<;>(first|refine aI ?_|rfl)<;>first|exact oT|skip);all_goals (rw[hs,Ng];rfl)
   ·refine ad (ao k rfl hg ?_);repeat'(first|refine ad ?_|refine dk ?_|refine ae (fun _=>?_) (fun _=>?_)|refine aq ?_)
    apply aG (k+1) [(16,_)] (by omega) (by omega);((repeat' constructor)<;>(first|refine aI ?_|rfl)<;>first|exact oT|skip);all_goals (rw[hs,Ng];simp[clU])
  ·obtain rfl:k=p.ups.length:=by omega
   refine ad ?_;apply aA (fun k:Nat=>k≤p.sh.jobs.length) (fun k=>⟨[(0,.op 0 0 0),(1,.op 1 0 0),(5,.os 16),(7,dI (k:Int))],(16,some (.buf 1 ((jb p k).map (D.i .i64))))::eR c p ev st nx l i,2⟩) (fun k=>p.sh.jobs.length-k) 0 (Nat.zero_le _) [(16,_)];·((repeat' constructor)<;>(first|refine aI ?_|rfl)<;>first|exact oT|skip);all_goals simp[jb]
   ·rintro k hk;refine ad ?_;refine ae (fun g3=>?_) (fun g3=>?_)
    ·have hk':k<p.sh.jobs.length:=by omega
     have:=hB k;have hs:=Mo p k hk';have hg:=j7 hk';generalize p.sh.jobs[k]=j at hs hg;obtain⟨exc,conn,born,opn,po,rd,dg,hhs,hp,shn,pr⟩:=j;by_cases z:conn=0
     ·refine ad (ao k rfl hg (ai (by show¬conn≠0;omega) ?_));repeat'(first|refine ad ?_|refine dk ?_|refine ae (fun _=>?_) (fun _=>?_)|refine aq ?_)
      apply aG (k+1) [(16,_)] (by omega) (by omega);((repeat' constructor)<;>(first|refine aI ?_|rfl)<;>first|exact oT|skip);all_goals (rw[hs,Ng];simp[Kx,z])
     ·cases opn
      ·refine ad (ao k rfl hg (aj z (ao k rfl hg (ao k rfl hg (aB (by simp;omega) ?_)))));repeat'(first|refine ad ?_|refine dk ?_|refine ae (fun _=>?_) (fun _=>?_)|refine aq ?_)
       apply aG (k+1) [(16,_)] (by omega) (by omega);((repeat' constructor)<;>(first|refine aI ?_|rfl)<;>first|exact oT|skip);all_goals (rw[hs,Ng];simp[Kx,z])
      ·refine ad (ao k rfl hg (aj z (ao k rfl hg ?_)));repeat'(first|refine ad ?_|refine dk ?_|refine ae (fun _=>?_) (fun _=>?_)|refine aq ?_)
       apply aG (k+1) [(16,_)] (by omega) (by omega);((repeat' constructor)<;>(first|refine aI ?_|rfl)<;>first|exact oT|skip);all_goals (rw[hs,Ng];simp[Kx])
    ·obtain rfl:k=p.sh.jobs.length:=by omega
     refine ad ?_;rcases hsel with⟨k0,rfl,rfl⟩|⟨k0,r,hr1,hr2,cN⟩
     ·refine aj k0 ?_;repeat'(first|refine ad ?_|refine dk ?_|refine ae (fun _=>?_) (fun _=>?_)|refine aq ?_)
      apply aw [];exact aF
     ·refine ai k0 ?_;refine ak [(0,1)] cN ?_ ?_;·(try simp only[aE]);exact aF
      refine bh r rfl hr2 (az hr1 ?_);repeat'(first|refine ad ?_|refine dk ?_|refine ae (fun _=>?_) (fun _=>?_)|refine aq ?_)
      apply aw [];exact aF
structure SM (c:bk)(p:aU)(ev:List Ev)(st:List fk)(nx:Int):Prop where
 m:jK c
 p:p.I c ev.length
 st:oE st (1000000000*ev.length) (20000+100000*ev.length)nx:0≤nx∧nx≤ev.length
 ok:∀e,e∈ev→e.Ok
theorem SM.c1 {c:bk}{p:aU}{ev:List Ev}{st:List fk}{nx:Int}(h:SM c p ev st nx)(_h1:ev.length≤45):p.cls.length≤1000000∧p.ups.length≤1000000∧p.sh.jobs.length≤1000000:=⟨h.p.j.s.cl,h.p.j.s.ul,h.p.j.s.sh.sm.jobs⟩
theorem SM.do_ {c:bk}{p:aU}{ev:List Ev}{st:List fk}{nx:Int}(h:SM c p ev st nx)(hl:ev.length≤45)(l:List Int)(i:Nat)(e:Ev)(he:e.Ok)(hi:i≤l.length)(hll:l.length≤1000000):∃(st':List fk)(i':Nat),SM c (b8 p e) (ev++[e]) st' nx∧i'≤l.length∧aH (CG G) 45 [.op 0 0 0,.op 1 0 0,.d (bH e)] (eR c p ev st nx l i) [] (mU c (b8 p e) (ev++[e]) st' nx l i'):=by
 obtain⟨st',i',h1,h2,h3⟩:=doE c p ev st nx l i e h.p h.m (by omega) (by omega) he.1 he.2 h.st (by omega) (by omega) hi hll;have hnx:=h.nx;refine⟨st',i',⟨h.m,?_,?_,?_,?_⟩,h2,h3⟩;·rw[Na];exact jB h.p h.m (by omega) e he.1
 ·rw[Na,NA];exact h1.up (by omega) (by omega)
 ·rw[Na,NA];omega
 ·intro x hx;rcases Np.1 hx with hx|hx;·exact h.ok x hx
  ·rw[Nx.1 hx];exact he
theorem gx (k id n:Int)(hn:0≤n∧n≤1000000):(⟨k,id,n,[]⟩:Ev).Ok:=⟨⟨by show(-9223372036854775808:Int)≤n;omega,by show n≤9223372036854775807;omega⟩,Nat.zero_le _⟩
def gD (G:List Gl)(c:bk)(p:aU)(ev:List Ev)(st:List fk)(nx:Int)(l:List Int)(i:Nat):Prop:=∃(p':aU)(e:Ev)(st':List fk)(nx':Int)(i':Nat),SM c p' (ev++[e]) st' nx'∧i'≤l.length∧aH (CG G) 49 [.op 0 0 0,.op 1 0 0] (eR c p ev st nx l i) [] (mU c p' (ev++[e]) st' nx' l i')
section
variable {c:bk}{p:aU}{ev:List Ev}{st:List fk}{nx:Int}{l:List Int}{i i1 r:Nat}
theorem act2 (h:SM c p ev st nx)(hl:ev.length≤45)(hll:l.length≤1000000)(g1:i1≤l.length)(c1:aH (CG G) 42 [.op 0 0 0,dI 14] (aE l i) [dI (r:Int)] (aE l i1))(hr:(r:Int)=2):gD G c p ev st nx l i:=by
 obtain⟨l1,l2,l3⟩:=h.c1 hl;obtain⟨id,i2,g2,c2⟩:=mA c p ev st nx l i1 l1 l2 l3 g1 hll;obtain⟨r3,i3,h3,g3,c3⟩:=bR l i2 300 g2 hll (by omega);have hnx:=h.nx;obtain⟨e,st',i',e1,e2,hS,gS,cD⟩:=kH c p ev st nx l i3 id (1+(r3:Int)) h.p h.m (by omega) (by omega) (by omega) h.st (by omega) (by omega) g3 hll;refine⟨b8 p e,e,st',nx,i',?_,gS,?_⟩
 ·have ok:e.Ok:=⟨⟨by rw[e1];decide,by rw[e1];decide⟩,Nat.le_trans e2 (by decide)⟩;refine⟨h.m,?_,?_,?_,?_⟩;·rw[Na];exact jB h.p h.m (by omega) e ok.1
  ·rw[Na,NA];exact hS.up (by omega) (by omega)
  ·rw[Na,NA];omega
  ·intro x hx;rcases Np.1 hx with hx|hx;·exact h.ok x hx
   ·rw[Nx.1 hx];exact ok
 generalize b8 p e=p' at cD⊢;refine mH 146 Tryz.func49 ?_;refine ak [(0,1)] c1 ?_ ?_;·(try simp only[aE]);exact aF
 repeat'(first|refine ad ?_|refine dk ?_|refine ai (by omega) ?_|refine aq ?_)
 refine aj (by omega) ?_;apply ak [(0,_),(1,_),(2,_),(3,_)] c2;·exact aF
 refine ak [(0,1)] c3 ?_ ?_;·(try simp only[aE]);exact aF
 refine aq ?_;apply ak [(0,_),(1,_),(2,_),(3,_)] cD;·exact aF
 apply aw [(16,_),(17,_)];exact aF
theorem act3 (h:SM c p ev st nx)(hl:ev.length≤45)(hll:l.length≤1000000)(g1:i1≤l.length)(c1:aH (CG G) 42 [.op 0 0 0,dI 14] (aE l i) [dI (r:Int)] (aE l i1))(hr:(r:Int)=3):gD G c p ev st nx l i:=by
 obtain⟨l1,l2,l3⟩:=h.c1 hl;obtain⟨id,i2,g2,c2⟩:=mA c p ev st nx l i1 l1 l2 l3 g1 hll;obtain⟨r3,i3,h3,g3,c3⟩:=bR l i2 300 g2 hll (by omega);have hnx:=h.nx;obtain⟨e,st',i',e1,e2,hS,gS,cD⟩:=kH c p ev st nx l i3 id (1+(r3:Int)) h.p h.m (by omega) (by omega) (by omega) h.st (by omega) (by omega) g3 hll;refine⟨b8 p e,e,st',nx,i',?_,gS,?_⟩
 ·have ok:e.Ok:=⟨⟨by rw[e1];decide,by rw[e1];decide⟩,Nat.le_trans e2 (by decide)⟩;refine⟨h.m,?_,?_,?_,?_⟩;·rw[Na];exact jB h.p h.m (by omega) e ok.1
  ·rw[Na,NA];exact hS.up (by omega) (by omega)
  ·rw[Na,NA];omega
  ·intro x hx;rcases Np.1 hx with hx|hx;·exact h.ok x hx
   ·rw[Nx.1 hx];exact ok
 generalize b8 p e=p' at cD⊢;refine mH 146 Tryz.func49 ?_;refine ak [(0,1)] c1 ?_ ?_;·(try simp only[aE]);exact aF
 repeat'(first|refine ad ?_|refine dk ?_|refine ai (by omega) ?_|refine aq ?_)
 refine aj (by omega) ?_;apply ak [(0,_),(1,_),(2,_),(3,_)] c2;·exact aF
 refine ak [(0,1)] c3 ?_ ?_;·(try simp only[aE]);exact aF
 refine aq ?_;apply ak [(0,_),(1,_),(2,_),(3,_)] cD;·exact aF
 apply aw [(16,_),(17,_)];exact aF
theorem act4 (h:SM c p ev st nx)(hl:ev.length≤45)(hll:l.length≤1000000)(g1:i1≤l.length)(c1:aH (CG G) 42 [.op 0 0 0,dI 14] (aE l i) [dI (r:Int)] (aE l i1))(hr:(r:Int)=4):gD G c p ev st nx l i:=by
 obtain⟨l1,l2,l3⟩:=h.c1 hl;obtain⟨id,i2,g2,c2⟩:=mA c p ev st nx l i1 l1 l2 l3 g1 hll;obtain⟨r3,i3,h3,g3,c3⟩:=bR l i2 300 g2 hll (by omega);have hnx:=h.nx;obtain⟨e,st',i',e1,e2,hS,gS,cD⟩:=kH c p ev st nx l i3 id (1+(r3:Int)) h.p h.m (by omega) (by omega) (by omega) h.st (by omega) (by omega) g3 hll;refine⟨b8 p e,e,st',nx,i',?_,gS,?_⟩
 ·have ok:e.Ok:=⟨⟨by rw[e1];decide,by rw[e1];decide⟩,Nat.le_trans e2 (by decide)⟩;refine⟨h.m,?_,?_,?_,?_⟩;·rw[Na];exact jB h.p h.m (by omega) e ok.1
  ·rw[Na,NA];exact hS.up (by omega) (by omega)
  ·rw[Na,NA];omega
  ·intro x hx;rcases Np.1 hx with hx|hx;·exact h.ok x hx
   ·rw[Nx.1 hx];exact ok
 generalize b8 p e=p' at cD⊢;refine mH 146 Tryz.func49 ?_;refine ak [(0,1)] c1 ?_ ?_;·(try simp only[aE]);exact aF
 repeat'(first|refine ad ?_|refine dk ?_|refine ai (by omega) ?_|refine aq ?_)
 refine aj (by omega) ?_;apply ak [(0,_),(1,_),(2,_),(3,_)] c2;·exact aF
 refine ak [(0,1)] c3 ?_ ?_;·(try simp only[aE]);exact aF
 refine aq ?_;apply ak [(0,_),(1,_),(2,_),(3,_)] cD;·exact aF
 apply aw [(16,_),(17,_)];exact aF
theorem act5 (h:SM c p ev st nx)(hl:ev.length≤45)(hll:l.length≤1000000)(g1:i1≤l.length)(c1:aH (CG G) 42 [.op 0 0 0,dI 14] (aE l i) [dI (r:Int)] (aE l i1))(hr:(r:Int)=5):gD G c p ev st nx l i:=by
 obtain⟨l1,l2,l3⟩:=h.c1 hl;obtain⟨id,i2,g2,c2⟩:=mA c p ev st nx l i1 l1 l2 l3 g1 hll;obtain⟨r3,i3,h3,g3,c3⟩:=bR l i2 300 g2 hll (by omega);have hnx:=h.nx;obtain⟨e,st',i',e1,e2,hS,gS,cD⟩:=kH c p ev st nx l i3 id (1+(r3:Int)) h.p h.m (by omega) (by omega) (by omega) h.st (by omega) (by omega) g3 hll;refine⟨b8 p e,e,st',nx,i',?_,gS,?_⟩
 ·have ok:e.Ok:=⟨⟨by rw[e1];decide,by rw[e1];decide⟩,Nat.le_trans e2 (by decide)⟩;refine⟨h.m,?_,?_,?_,?_⟩;·rw[Na];exact jB h.p h.m (by omega) e ok.1
  ·rw[Na,NA];exact hS.up (by omega) (by omega)
  ·rw[Na,NA];omega
  ·intro x hx;rcases Np.1 hx with hx|hx;·exact h.ok x hx
   ·rw[Nx.1 hx];exact ok
 generalize b8 p e=p' at cD⊢;refine mH 146 Tryz.func49 ?_;refine ak [(0,1)] c1 ?_ ?_;·(try simp only[aE]);exact aF
 repeat'(first|refine ad ?_|refine dk ?_|refine ai (by omega) ?_|refine aq ?_)
 refine aj (by omega) ?_;apply ak [(0,_),(1,_),(2,_),(3,_)] c2;·exact aF
 refine ak [(0,1)] c3 ?_ ?_;·(try simp only[aE]);exact aF
 refine aq ?_;apply ak [(0,_),(1,_),(2,_),(3,_)] cD;·exact aF
 apply aw [(16,_),(17,_)];exact aF
theorem act6 (h:SM c p ev st nx)(hl:ev.length≤45)(hll:l.length≤1000000)(g1:i1≤l.length)(c1:aH (CG G) 42 [.op 0 0 0,dI 14] (aE l i) [dI (r:Int)] (aE l i1))(hr:(r:Int)=6):gD G c p ev st nx l i:=by
 obtain⟨l1,l2,l3⟩:=h.c1 hl;obtain⟨id,i2,g2,c2⟩:=mA c p ev st nx l i1 l1 l2 l3 g1 hll;obtain⟨r3,i3,h3,g3,c3⟩:=bR l i2 600 g2 hll (by omega);obtain⟨st',i',hS,gS,cD⟩:=h.do_ hl l i3 ⟨6,id,(r3:Int),[]⟩ (gx _ _ _ (by omega)) g3 hll;refine⟨_,_,st',nx,i',hS,gS,?_⟩;generalize b8 p _=p' at cD⊢;unfold bH at cD;dsimp only at cD;refine mH 146 Tryz.func49 ?_;refine ak [(0,1)] c1 ?_ ?_;·(try simp only[aE]);exact aF
 repeat'(first|refine ad ?_|refine dk ?_|refine ai (by omega) ?_|refine aq ?_)
 refine aj (by omega) ?_;apply ak [(0,_),(1,_),(2,_),(3,_)] c2;·exact aF
 refine ak [(0,1)] c3 ?_ ?_;·(try simp only[aE]);exact aF
 apply ak [(0,_),(1,_),(2,_),(3,_)] cD;·exact aF
 apply aw [(16,_),(17,_)];exact aF
theorem act7 (h:SM c p ev st nx)(hl:ev.length≤45)(hll:l.length≤1000000)(g1:i1≤l.length)(c1:aH (CG G) 42 [.op 0 0 0,dI 14] (aE l i) [dI (r:Int)] (aE l i1))(hr:(r:Int)=7):gD G c p ev st nx l i:=by
 obtain⟨l1,l2,l3⟩:=h.c1 hl;obtain⟨id,i2,g2,c2⟩:=mA c p ev st nx l i1 l1 l2 l3 g1 hll;obtain⟨r3,i3,h3,g3,c3⟩:=bR l i2 600 g2 hll (by omega);obtain⟨st',i',hS,gS,cD⟩:=h.do_ hl l i3 ⟨6,id,(r3:Int),[]⟩ (gx _ _ _ (by omega)) g3 hll;refine⟨_,_,st',nx,i',hS,gS,?_⟩;generalize b8 p _=p' at cD⊢;unfold bH at cD;dsimp only at cD;refine mH 146 Tryz.func49 ?_;refine ak [(0,1)] c1 ?_ ?_;·(try simp only[aE]);exact aF
 repeat'(first|refine ad ?_|refine dk ?_|refine ai (by omega) ?_|refine aq ?_)
 refine aj (by omega) ?_;apply ak [(0,_),(1,_),(2,_),(3,_)] c2;·exact aF
 refine ak [(0,1)] c3 ?_ ?_;·(try simp only[aE]);exact aF
 apply ak [(0,_),(1,_),(2,_),(3,_)] cD;·exact aF
 apply aw [(16,_),(17,_)];exact aF
theorem act8 (h:SM c p ev st nx)(hl:ev.length≤45)(hll:l.length≤1000000)(g1:i1≤l.length)(c1:aH (CG G) 42 [.op 0 0 0,dI 14] (aE l i) [dI (r:Int)] (aE l i1))(hr:(r:Int)=8):gD G c p ev st nx l i:=by
 obtain⟨l1,l2,l3⟩:=h.c1 hl;obtain⟨id,i2,g2,c2⟩:=mA c p ev st nx l i1 l1 l2 l3 g1 hll;obtain⟨r3,i3,h3,g3,c3⟩:=bR l i2 600 g2 hll (by omega);obtain⟨st',i',hS,gS,cD⟩:=h.do_ hl l i3 ⟨6,id,(r3:Int),[]⟩ (gx _ _ _ (by omega)) g3 hll;refine⟨_,_,st',nx,i',hS,gS,?_⟩;generalize b8 p _=p' at cD⊢;unfold bH at cD;dsimp only at cD;refine mH 146 Tryz.func49 ?_;refine ak [(0,1)] c1 ?_ ?_;·(try simp only[aE]);exact aF
 repeat'(first|refine ad ?_|refine dk ?_|refine ai (by omega) ?_|refine aq ?_)
 refine aj (by omega) ?_;apply ak [(0,_),(1,_),(2,_),(3,_)] c2;·exact aF
 refine ak [(0,1)] c3 ?_ ?_;·(try simp only[aE]);exact aF
 apply ak [(0,_),(1,_),(2,_),(3,_)] cD;·exact aF
 apply aw [(16,_),(17,_)];exact aF
theorem act9a (h:SM c p ev st nx)(hl:ev.length≤45)(hll:l.length≤1000000)(_h2:i1≤l.length)(c1:aH (CG G) 42 [.op 0 0 0,dI 14] (aE l i) [dI (r:Int)] (aE l i1))(hr:(r:Int)=9){i2:Nat}{id:Int}(g2:i2≤l.length)(c2:aH (CG G) 68 [.op 0 0 0,.op 1 0 0] (eR c p ev st nx l i1) [dI id] (eR c p ev st nx l i2))(hid:¬id>0):gD G c p ev st nx l i:=by
 obtain⟨l1,l2,l3⟩:=h.c1 hl;obtain⟨st',i',hS,gS,cD⟩:=h.do_ hl l i2 ⟨5,id,0,[]⟩ (gx _ _ _ (by omega)) g2 hll;refine⟨_,_,st',nx,i',hS,gS,?_⟩;generalize b8 p _=p' at cD⊢;unfold bH at cD;dsimp only at cD;refine mH 146 Tryz.func49 ?_;refine ak [(0,1)] c1 ?_ ?_;·(try simp only[aE]);exact aF
 repeat'(first|refine ad ?_|refine dk ?_|refine ai (by omega) ?_|refine aq ?_)
 refine aj (by omega) ?_;apply ak [(0,_),(1,_),(2,_),(3,_)] c2;·exact aF
 refine ai hid ?_;apply ak [(0,_),(1,_),(2,_),(3,_)] cD;·exact aF
 apply aw [(16,_),(17,_)];exact aF
theorem act9b (h:SM c p ev st nx)(hl:ev.length≤45)(hll:l.length≤1000000)(_h3:i1≤l.length)(c1:aH (CG G) 42 [.op 0 0 0,dI 14] (aE l i) [dI (r:Int)] (aE l i1))(hr:(r:Int)=9){i2:Nat}{id:Int}(_h4:i2≤l.length)(c2:aH (CG G) 68 [.op 0 0 0,.op 1 0 0] (eR c p ev st nx l i1) [dI id] (eR c p ev st nx l i2))(hid:id>0){r3 i3:Nat}(g3:i3≤l.length)(c3:aH (CG G) 42 [.op 0 0 0,dI 6] (aE l i2) [dI (r3:Int)] (aE l i3))(h3:(r3:Int)>0):gD G c p ev st nx l i:=by
 obtain⟨l1,l2,l3⟩:=h.c1 hl;obtain⟨st',i',hS,gS,cD⟩:=h.do_ hl l i3 ⟨4,id,0,[]⟩ (gx _ _ _ (by omega)) g3 hll;refine⟨_,_,st',nx,i',hS,gS,?_⟩;generalize b8 p _=p' at cD⊢;unfold bH at cD;dsimp only at cD;refine mH 146 Tryz.func49 ?_;refine ak [(0,1)] c1 ?_ ?_;·(try simp only[aE]);exact aF
 repeat'(first|refine ad ?_|refine dk ?_|refine ai (by omega) ?_|refine aq ?_)
 refine aj (by omega) ?_;apply ak [(0,_),(1,_),(2,_),(3,_)] c2;·exact aF
 refine aj hid ?_;refine ak [(0,1)] c3 ?_ ?_;·(try simp only[aE]);exact aF
 refine aj h3 ?_;apply ak [(0,_),(1,_),(2,_),(3,_)] cD;·exact aF
 apply aw [(16,_),(17,_)];exact aF
theorem act9c (h:SM c p ev st nx)(hl:ev.length≤45)(hll:l.length≤1000000)(_h5:i1≤l.length)(c1:aH (CG G) 42 [.op 0 0 0,dI 14] (aE l i) [dI (r:Int)] (aE l i1))(hr:(r:Int)=9){i2:Nat}{id:Int}(_h6:i2≤l.length)(c2:aH (CG G) 68 [.op 0 0 0,.op 1 0 0] (eR c p ev st nx l i1) [dI id] (eR c p ev st nx l i2))(hid:id>0){r3 i3:Nat}(g3:i3≤l.length)(c3:aH (CG G) 42 [.op 0 0 0,dI 6] (aE l i2) [dI (r3:Int)] (aE l i3))(h3:¬(r3:Int)>0):gD G c p ev st nx l i:=by
 obtain⟨l1,l2,l3⟩:=h.c1 hl;obtain⟨st',i',hS,gS,cD⟩:=h.do_ hl l i3 ⟨5,id,0,[]⟩ (gx _ _ _ (by omega)) g3 hll;refine⟨_,_,st',nx,i',hS,gS,?_⟩;generalize b8 p _=p' at cD⊢;unfold bH at cD;dsimp only at cD;refine mH 146 Tryz.func49 ?_;refine ak [(0,1)] c1 ?_ ?_;·(try simp only[aE]);exact aF
 repeat'(first|refine ad ?_|refine dk ?_|refine ai (by omega) ?_|refine aq ?_)
 refine aj (by omega) ?_;apply ak [(0,_),(1,_),(2,_),(3,_)] c2;·exact aF
 refine aj hid ?_;refine ak [(0,1)] c3 ?_ ?_;·(try simp only[aE]);exact aF
 refine ai h3 ?_;apply ak [(0,_),(1,_),(2,_),(3,_)] cD;·exact aF
 apply aw [(16,_),(17,_)];exact aF
theorem act9 (h:SM c p ev st nx)(hl:ev.length≤45)(hll:l.length≤1000000)(g1:i1≤l.length)(c1:aH (CG G) 42 [.op 0 0 0,dI 14] (aE l i) [dI (r:Int)] (aE l i1))(hr:(r:Int)=9):gD G c p ev st nx l i:=by
 obtain⟨l1,l2,l3⟩:=h.c1 hl;obtain⟨id,i2,g2,c2⟩:=BE c p ev st nx l i1 l2 l3 g1 hll;by_cases hid:id>0
 ·obtain⟨r3,i3,h3,g3,c3⟩:=bR l i2 6 g2 hll (by omega);by_cases h4:(r3:Int)>0;·exact act9b h hl hll g1 c1 hr g2 c2 hid g3 c3 h4
  ·exact act9c h hl hll g1 c1 hr g2 c2 hid g3 c3 h4
 ·exact act9a h hl hll g1 c1 hr g2 c2 hid
theorem Lv (h:SM c p ev st nx)(hl:ev.length≤45)(hll:l.length≤1000000)(_h7:i1≤l.length)(c1:aH (CG G) 42 [.op 0 0 0,dI 14] (aE l i) [dI (r:Int)] (aE l i1))(hr:(r:Int)=10){i2:Nat}{id:Int}(g2:i2≤l.length)(c2:aH (CG G) 68 [.op 0 0 0,.op 1 0 0] (eR c p ev st nx l i1) [dI id] (eR c p ev st nx l i2))(hid:¬id>0):gD G c p ev st nx l i:=by
 obtain⟨l1,l2,l3⟩:=h.c1 hl;obtain⟨st',i',hS,gS,cD⟩:=h.do_ hl l i2 ⟨5,id,0,[]⟩ (gx _ _ _ (by omega)) g2 hll;refine⟨_,_,st',nx,i',hS,gS,?_⟩;generalize b8 p _=p' at cD⊢;unfold bH at cD;dsimp only at cD;refine mH 146 Tryz.func49 ?_;refine ak [(0,1)] c1 ?_ ?_;·(try simp only[aE]);exact aF
 repeat'(first|refine ad ?_|refine dk ?_|refine ai (by omega) ?_|refine aq ?_)
 refine aj (by omega) ?_;apply ak [(0,_),(1,_),(2,_),(3,_)] c2;·exact aF
 refine ai hid ?_;apply ak [(0,_),(1,_),(2,_),(3,_)] cD;·exact aF
 apply aw [(16,_),(17,_)];exact aF
theorem LR (h:SM c p ev st nx)(hl:ev.length≤45)(hll:l.length≤1000000)(_h8:i1≤l.length)(c1:aH (CG G) 42 [.op 0 0 0,dI 14] (aE l i) [dI (r:Int)] (aE l i1))(hr:(r:Int)=10){i2:Nat}{id:Int}(_h9:i2≤l.length)(c2:aH (CG G) 68 [.op 0 0 0,.op 1 0 0] (eR c p ev st nx l i1) [dI id] (eR c p ev st nx l i2))(hid:id>0){r3 i3:Nat}(g3:i3≤l.length)(c3:aH (CG G) 42 [.op 0 0 0,dI 6] (aE l i2) [dI (r3:Int)] (aE l i3))(h3:(r3:Int)>0):gD G c p ev st nx l i:=by
 obtain⟨l1,l2,l3⟩:=h.c1 hl;obtain⟨st',i',hS,gS,cD⟩:=h.do_ hl l i3 ⟨4,id,0,[]⟩ (gx _ _ _ (by omega)) g3 hll;refine⟨_,_,st',nx,i',hS,gS,?_⟩;generalize b8 p _=p' at cD⊢;unfold bH at cD;dsimp only at cD;refine mH 146 Tryz.func49 ?_;refine ak [(0,1)] c1 ?_ ?_;·(try simp only[aE]);exact aF
 repeat'(first|refine ad ?_|refine dk ?_|refine ai (by omega) ?_|refine aq ?_)
 refine aj (by omega) ?_;apply ak [(0,_),(1,_),(2,_),(3,_)] c2;·exact aF
 refine aj hid ?_;refine ak [(0,1)] c3 ?_ ?_;·(try simp only[aE]);exact aF
 refine aj h3 ?_;apply ak [(0,_),(1,_),(2,_),(3,_)] cD;·exact aF
 apply aw [(16,_),(17,_)];exact aF
theorem Lj (h:SM c p ev st nx)(hl:ev.length≤45)(hll:l.length≤1000000)(_h10:i1≤l.length)(c1:aH (CG G) 42 [.op 0 0 0,dI 14] (aE l i) [dI (r:Int)] (aE l i1))(hr:(r:Int)=10){i2:Nat}{id:Int}(_h11:i2≤l.length)(c2:aH (CG G) 68 [.op 0 0 0,.op 1 0 0] (eR c p ev st nx l i1) [dI id] (eR c p ev st nx l i2))(hid:id>0){r3 i3:Nat}(g3:i3≤l.length)(c3:aH (CG G) 42 [.op 0 0 0,dI 6] (aE l i2) [dI (r3:Int)] (aE l i3))(h3:¬(r3:Int)>0):gD G c p ev st nx l i:=by
 obtain⟨l1,l2,l3⟩:=h.c1 hl;obtain⟨st',i',hS,gS,cD⟩:=h.do_ hl l i3 ⟨5,id,0,[]⟩ (gx _ _ _ (by omega)) g3 hll;refine⟨_,_,st',nx,i',hS,gS,?_⟩;generalize b8 p _=p' at cD⊢;unfold bH at cD;dsimp only at cD;refine mH 146 Tryz.func49 ?_;refine ak [(0,1)] c1 ?_ ?_;·(try simp only[aE]);exact aF
 repeat'(first|refine ad ?_|refine dk ?_|refine ai (by omega) ?_|refine aq ?_)
 refine aj (by omega) ?_;apply ak [(0,_),(1,_),(2,_),(3,_)] c2;·exact aF
 refine aj hid ?_;refine ak [(0,1)] c3 ?_ ?_;·(try simp only[aE]);exact aF
 refine ai h3 ?_;apply ak [(0,_),(1,_),(2,_),(3,_)] cD;·exact aF
 apply aw [(16,_),(17,_)];exact aF
theorem act10 (h:SM c p ev st nx)(hl:ev.length≤45)(hll:l.length≤1000000)(g1:i1≤l.length)(c1:aH (CG G) 42 [.op 0 0 0,dI 14] (aE l i) [dI (r:Int)] (aE l i1))(hr:(r:Int)=10):gD G c p ev st nx l i:=by
 obtain⟨l1,l2,l3⟩:=h.c1 hl;obtain⟨id,i2,g2,c2⟩:=BE c p ev st nx l i1 l2 l3 g1 hll;by_cases hid:id>0
 ·obtain⟨r3,i3,h3,g3,c3⟩:=bR l i2 6 g2 hll (by omega);by_cases h4:(r3:Int)>0;·exact LR h hl hll g1 c1 hr g2 c2 hid g3 c3 h4
  ·exact Lj h hl hll g1 c1 hr g2 c2 hid g3 c3 h4
 ·exact Lv h hl hll g1 c1 hr g2 c2 hid
theorem act11 (h:SM c p ev st nx)(hl:ev.length≤45)(hll:l.length≤1000000)(g1:i1≤l.length)(c1:aH (CG G) 42 [.op 0 0 0,dI 14] (aE l i) [dI (r:Int)] (aE l i1))(hr:(r:Int)=11):gD G c p ev st nx l i:=by
 obtain⟨l1,l2,l3⟩:=h.c1 hl;obtain⟨st',i',hS,gS,cD⟩:=h.do_ hl l i1 ⟨8,0,0,[]⟩ (gx _ _ _ (by omega)) g1 hll;refine⟨_,_,st',nx,i',hS,gS,?_⟩;generalize b8 p _=p' at cD⊢;unfold bH at cD;dsimp only at cD;refine mH 146 Tryz.func49 ?_;refine ak [(0,1)] c1 ?_ ?_;·(try simp only[aE]);exact aF
 repeat'(first|refine ad ?_|refine dk ?_|refine ai (by omega) ?_|refine aq ?_)
 refine aj (by omega) ?_;apply ak [(0,_),(1,_),(2,_),(3,_)] cD;·exact aF
 apply aw [(16,_),(17,_)];exact aF
theorem M1 (h:SM c p ev st nx)(hl:ev.length≤45)(hll:l.length≤1000000)(_h12:i1≤l.length)(c1:aH (CG G) 42 [.op 0 0 0,dI 14] (aE l i) [dI (r:Int)] (aE l i1))(hr:(r:Int)=12){r3 i3:Nat}(g3:i3≤l.length)(c3:aH (CG G) 42 [.op 0 0 0,dI 2] (aE l i1) [dI (r3:Int)] (aE l i3))(h3:(r3:Int)=0):gD G c p ev st nx l i:=by
 obtain⟨l1,l2,l3⟩:=h.c1 hl;obtain⟨id,i2,g2,c2⟩:=mA c p ev st nx l i3 l1 l2 l3 g3 hll;obtain⟨st',i',hS,gS,cD⟩:=h.do_ hl l i2 ⟨3,id,0,[]⟩ (gx _ _ _ (by omega)) g2 hll;refine⟨_,_,st',nx,i',hS,gS,?_⟩;generalize b8 p _=p' at cD⊢;unfold bH at cD;dsimp only at cD;refine mH 146 Tryz.func49 ?_;refine ak [(0,1)] c1 ?_ ?_;·(try simp only[aE]);exact aF
 repeat'(first|refine ad ?_|refine dk ?_|refine ai (by omega) ?_|refine aq ?_)
 refine aj (by omega) ?_;refine ak [(0,1)] c3 ?_ ?_;·(try simp only[aE]);exact aF
 refine aj h3 ?_;apply ak [(0,_),(1,_),(2,_),(3,_)] c2;·exact aF
 apply ak [(0,_),(1,_),(2,_),(3,_)] cD;·exact aF
 apply aw [(16,_),(17,_)];exact aF
theorem Lq (h:SM c p ev st nx)(hl:ev.length≤45)(hll:l.length≤1000000)(_h13:i1≤l.length)(c1:aH (CG G) 42 [.op 0 0 0,dI 14] (aE l i) [dI (r:Int)] (aE l i1))(hr:(r:Int)=12){r3 i3:Nat}(g3:i3≤l.length)(c3:aH (CG G) 42 [.op 0 0 0,dI 2] (aE l i1) [dI (r3:Int)] (aE l i3))(h3:¬(r3:Int)=0):gD G c p ev st nx l i:=by
 obtain⟨l1,l2,l3⟩:=h.c1 hl;obtain⟨st',i',hS,gS,cD⟩:=h.do_ hl l i3 ⟨8,0,0,[]⟩ (gx _ _ _ (by omega)) g3 hll;refine⟨_,_,st',nx,i',hS,gS,?_⟩;generalize b8 p _=p' at cD⊢;unfold bH at cD;dsimp only at cD;refine mH 146 Tryz.func49 ?_;refine ak [(0,1)] c1 ?_ ?_;·(try simp only[aE]);exact aF
 repeat'(first|refine ad ?_|refine dk ?_|refine ai (by omega) ?_|refine aq ?_)
 refine aj (by omega) ?_;refine ak [(0,1)] c3 ?_ ?_;·(try simp only[aE]);exact aF
 refine ai h3 ?_;apply ak [(0,_),(1,_),(2,_),(3,_)] cD;·exact aF
 apply aw [(16,_),(17,_)];exact aF
theorem K9 (h:SM c p ev st nx)(hl:ev.length≤45)(hll:l.length≤1000000)(_h14:i1≤l.length)(c1:aH (CG G) 42 [.op 0 0 0,dI 14] (aE l i) [dI (r:Int)] (aE l i1))(hr:(r:Int)=13){r3 i3:Nat}(g3:i3≤l.length)(c3:aH (CG G) 42 [.op 0 0 0,dI 3] (aE l i1) [dI (r3:Int)] (aE l i3))(h3:(r3:Int)=0):gD G c p ev st nx l i:=by
 obtain⟨l1,l2,l3⟩:=h.c1 hl;obtain⟨id,i2,g2,c2⟩:=mA c p ev st nx l i3 l1 l2 l3 g3 hll;obtain⟨st',i',hS,gS,cD⟩:=h.do_ hl l i2 ⟨7,id,0,[]⟩ (gx _ _ _ (by omega)) g2 hll;refine⟨_,_,st',nx,i',hS,gS,?_⟩;generalize b8 p _=p' at cD⊢;unfold bH at cD;dsimp only at cD;refine mH 146 Tryz.func49 ?_;refine ak [(0,1)] c1 ?_ ?_;·(try simp only[aE]);exact aF
 repeat'(first|refine ad ?_|refine dk ?_|refine ai (by omega) ?_|refine aq ?_)
 refine ak [(0,1)] c3 ?_ ?_;·(try simp only[aE]);exact aF
 refine aj h3 ?_;apply ak [(0,_),(1,_),(2,_),(3,_)] c2;·exact aF
 apply ak [(0,_),(1,_),(2,_),(3,_)] cD;·exact aF
 apply aw [(16,_),(17,_)];exact aF
theorem Mf (h:SM c p ev st nx)(hl:ev.length≤45)(hll:l.length≤1000000)(_h15:i1≤l.length)(c1:aH (CG G) 42 [.op 0 0 0,dI 14] (aE l i) [dI (r:Int)] (aE l i1))(hr:(r:Int)=13){r3 i3:Nat}(g3:i3≤l.length)(c3:aH (CG G) 42 [.op 0 0 0,dI 3] (aE l i1) [dI (r3:Int)] (aE l i3))(h3:¬(r3:Int)=0):gD G c p ev st nx l i:=by
 obtain⟨l1,l2,l3⟩:=h.c1 hl;obtain⟨r4,i4,h4,g4,c4⟩:=bR l i3 1000 g3 hll (by omega);obtain⟨st',i',hS,gS,cD⟩:=h.do_ hl l i4 ⟨9,0,(r4:Int),[]⟩ (gx _ _ _ (by omega)) g4 hll;refine⟨_,_,st',nx,i',hS,gS,?_⟩;generalize b8 p _=p' at cD⊢;unfold bH at cD;dsimp only at cD;refine mH 146 Tryz.func49 ?_;refine ak [(0,1)] c1 ?_ ?_;·(try simp only[aE]);exact aF
 repeat'(first|refine ad ?_|refine dk ?_|refine ai (by omega) ?_|refine aq ?_)
 refine ak [(0,1)] c3 ?_ ?_;·(try simp only[aE]);exact aF
 refine ai h3 ?_;refine ak [(0,1)] c4 ?_ ?_;·(try simp only[aE]);exact aF
 apply ak [(0,_),(1,_),(2,_),(3,_)] cD;·exact aF
 apply aw [(16,_),(17,_)];exact aF
theorem act12 (h:SM c p ev st nx)(hl:ev.length≤45)(hll:l.length≤1000000)(g1:i1≤l.length)(c1:aH (CG G) 42 [.op 0 0 0,dI 14] (aE l i) [dI (r:Int)] (aE l i1))(hr:(r:Int)=12):gD G c p ev st nx l i:=by
 obtain⟨r3,i3,h3,g3,c3⟩:=bR l i1 2 g1 hll (by omega);by_cases h4:(r3:Int)=0;·exact M1 h hl hll g1 c1 hr g3 c3 h4
 ·exact Lq h hl hll g1 c1 hr g3 c3 h4
theorem act13 (h:SM c p ev st nx)(hl:ev.length≤45)(hll:l.length≤1000000)(g1:i1≤l.length)(c1:aH (CG G) 42 [.op 0 0 0,dI 14] (aE l i) [dI (r:Int)] (aE l i1))(hr:(r:Int)=13):gD G c p ev st nx l i:=by
 obtain⟨r3,i3,h3,g3,c3⟩:=bR l i1 3 g1 hll (by omega);by_cases h4:(r3:Int)=0;·exact K9 h hl hll g1 c1 hr g3 c3 h4
 ·exact Mf h hl hll g1 c1 hr g3 c3 h4
end
def Cz:List Int:=[0,0,0,100000,200000]
def Says (G:List Gl)(l:List Int)(id:Int)(s s':List fk×Nat):Prop:=∃(q:eL)(i1 r:Nat)(ck:Bool)(w:List UInt8),(((r:Int)=0∧ck=true)∨(¬(r:Int)=0∧ck=false))∧w.length≤20000∧aH (CG G) 65 [.op 0 0 0] (aE l s.2) [.d (gu q)] (aE l i1)∧aH (CG G) 42 [.op 0 0 0,dI 2] (aE l i1) [dI (r:Int)] (aE l s'.2)∧aH (CG G) 64 [.d (gu q),.d (.b ck)] [] [.os 16] [(16,some (.buf 1 (aD w)))]∧s'.1=lN s.1 id w
theorem saysE (l:List Int)(hll:l.length≤1000000)(id:Int)(s:List fk×Nat){n b:Nat}(hs:oE s.1 n b)(hi:s.2≤l.length):∃s',(oE s'.1 (n+1) (b+20000)∧s'.2≤l.length)∧Says G l id s s':=by
 obtain⟨q,i1,hq,g1,c1⟩:=GH l s.2 hi hll;obtain⟨r,i2,hr,g2,c2⟩:=bR l i1 2 g1 hll (by omega);obtain⟨ck,hck⟩:∃ck:Bool,((r:Int)=0∧ck=true)∨(¬(r:Int)=0∧ck=false):=by
  by_cases h:(r:Int)=0;·exact⟨true,.inl ⟨h,rfl⟩⟩
  ·exact⟨false,.inr ⟨h,rfl⟩⟩
 obtain⟨w,hw,cW⟩:=wireE q hq ck;exact⟨(lN s.1 id w,i2),⟨(hs.say id w).up (by omega) (by omega),g2⟩,q,i1,r,ck,w,hck,hw,c1,c2,cW,rfl⟩
section
variable {c:bk}{p:aU}{ev:List Ev}{st:List fk}{nx:Int}{l:List Int}{i i1 r:Nat}
theorem Ir (h:SM c p ev st nx)(hl:ev.length≤45)(hll:l.length≤1000000)(g1:i1≤l.length)(c1:aH (CG G) 42 [.op 0 0 0,dI 14] (aE l i) [dI (r:Int)] (aE l i1))(hr:(r:Int)=0∨(r:Int)=1):gD G c p ev st nx l i:=by
 have hnx:=h.nx;obtain⟨r2,i2,h2,g2,c2⟩:=bR l i1 5 g1 hll (by omega);obtain⟨v,hv,hvb⟩:∃v:Int,(Cz.map (D.i .i64))[r2]?=some (.i .i64 v)∧0≤v∧v≤200000:=by
  have h5:r2<Cz.length:=by show r2<5;omega
  have hm:Cz[r2]∈Cz:=Nr h5;have hall:∀x,x∈Cz→0≤x∧x≤200000:=by decide
  exact⟨Cz[r2],by simp[h5],hall _ hm⟩
 have ok:=gx 1 (nx+1+v) 0 (by omega);obtain⟨st1,j1,b1,g3,cD⟩:=doE c p ev st (nx+1) l i2 ⟨1,nx+1+v,0,[]⟩ h.p h.m (by omega) (by omega) ok.1 ok.2 h.st (by omega) (by omega) g2 hll;have hI:=jB h.p h.m (by omega) ⟨1,nx+1+v,0,[]⟩ ok.1;generalize b8 p ⟨1,nx+1+v,0,[]⟩=p' at cD hI;obtain⟨r4,i4,h4,g4,c4⟩:=bR l j1 2 g3 hll (by omega);obtain⟨f,f0,hf⟩:=LP (S:=List fk×Nat) (fun k s=>oE s.1 (1000000000*ev.length+900000000+k) (20000+100000*ev.length+20000*k)∧s.2≤l.length)
  (fun _ s s'=>Says G l (nx+1+v) s s') (st1,i4) ⟨b1.up (by omega) (by omega),g4⟩ (by rintro k s ⟨h5,h6⟩;obtain⟨s',⟨a1,a2⟩,a3⟩:=saysE l hll (nx+1+v) s h5 h6;exact⟨s',⟨a1.up (by omega) (by omega),a2⟩,a3⟩);obtain⟨m,hm,hm3⟩:∃m:Nat,(1+(r4:Int))=(m:Int)∧m≤2:=⟨1+r4,by push_cast;rfl,by omega⟩;obtain⟨hB,hj⟩:=(hf m).1;obtain⟨r6,i6,h6,g6,c6⟩:=bR l (f m).2 8 hj hll (by omega);obtain⟨d,i7,hd,g7,c7⟩:=y8 l i6 8 g6 hll (by omega);obtain⟨st',i',hS,gS,hsel⟩:∃(st':List fk)(i':Nat),oE st' (1000000000*(ev.length+1)) (20000+100000*(ev.length+1))∧i'≤l.length∧(((r6:Int)=0∧st'=lN (f m).1 (nx+1+v) d∧i'=i7)∨(¬(r6:Int)=0∧st'=(f m).1∧i'=i6)):=by
  by_cases h0:(r6:Int)=0;·exact⟨_,_,(hB.say (nx+1+v) d).up (by omega) (by omega),g7,.inl ⟨h0,rfl,rfl⟩⟩
  ·exact⟨_,_,hB.up (by omega) (by omega),g6,.inr ⟨h0,rfl,rfl⟩⟩
 refine⟨p',⟨1,nx+1+v,0,[]⟩,st',nx+1,i',⟨h.m,?_,?_,?_,?_⟩,gS,?_⟩;·rw[Na];exact hI
 ·rw[Na,NA];exact hS
 ·rw[Na,NA];omega
 ·intro x hx;rcases Np.1 hx with hx|hx;·exact h.ok x hx
  ·rw[Nx.1 hx];exact ok
 have cS:=JG c p' (ev++[⟨1,nx+1+v,0,[]⟩]) (f m).1 (nx+1) (nx+1+v) d (by have:=hB.n;omega) (by omega) (fun x hx=>by have:=hB.b x hx;omega);generalize ev++[⟨1,nx+1+v,0,[]⟩]=ev' at cD cS⊢;unfold bH at cD;dsimp only at cD;refine mH 146 Tryz.func49 ?_;refine ak [(0,1)] c1 ?_ ?_;·(try simp only[aE]);exact aF
 apply bd (fun _:Unit=>True) (fun _=>⟨[(0,.op 0 0 0),(1,.op 1 0 0),(25,.d (.b true))],eR c p ev st nx l i1,2⟩)
 ·rcases hr with hr|hr;·refine aj hr ?_;apply aC () [] trivial;exact aF
  ·refine ai (by omega) (aj hr ?_);apply aC () [] trivial;exact aF
 ·rintro _ _;repeat'(first|refine ad ?_|refine dk ?_|refine ae (fun _=>?_) (fun _=>?_)|refine aq ?_)
  refine ak [(0,1)] c2 ?_ ?_;·(try simp only[aE]);exact aF
  repeat'(first|refine ad ?_|refine dk ?_|refine ae (fun _=>?_) (fun _=>?_)|refine aq ?_)
  refine bh r2 rfl (by show r2<5;omega) (az hv ?_);repeat'(first|refine ad ?_|refine dk ?_|refine ae (fun _=>?_) (fun _=>?_)|refine aq ?_)
  apply ak [(0,_),(1,_),(2,_),(3,_)] cD;·exact aF
  repeat'(first|refine ad ?_|refine dk ?_|refine ae (fun _=>?_) (fun _=>?_)|refine aq ?_)
  refine ak [(0,1)] c4 ?_ ?_;·(try simp only[aE]);exact aF
  repeat'(first|refine ad ?_|refine dk ?_|refine ae (fun _=>?_) (fun _=>?_)|refine aq ?_)
  apply aA (fun k:Nat=>k≤m) (fun k=>⟨[(0,.op 0 0 0),(1,.op 1 0 0),(4,dI (nx+1+v)),(5,dI ((m:Int)-(k:Int)))],[(0,some (qH c p' (nx+1) 18 17)),(1,wn l (f k).2),(17,pT (f k).1),(18,qG ev')],2⟩) (fun k=>m-k) 0 (Nat.zero_le _) [(17,_),(18,_)];·((repeat' constructor)<;>(first|refine aI ?_|rfl)<;>first|exact oT|skip);all_goals (first|(rw[f0];done)|skip)
  ·rintro k hk;obtain⟨⟨hb1,hj1⟩,q,j2,r7,ck,w,hck,hw,y1,y2,y3,y4⟩:=hf k;have cs:=JG c p' ev' (f k).1 (nx+1) (nx+1+v) w (by have:=hb1.n;omega) (by omega) (fun x hx=>by have:=hb1.b x hx;omega);refine ad ?_;refine ae (fun h1=>?_) (fun h1=>?_)
   ·have hk':k<m:=by omega
    rcases hck with⟨hck,rfl⟩|⟨hck,rfl⟩
    ·refine ad ?_;refine ak [(0,1)] y1 ?_ ?_;·(try simp only[aE]);exact aF
     repeat'(first|refine ad ?_|refine dk ?_|refine ae (fun _=>?_) (fun _=>?_)|refine aq ?_)
     refine ak [(0,1)] y2 ?_ ?_;·(try simp only[aE]);exact aF
     refine aj hck ?_;repeat'(first|refine ad ?_|refine dk ?_|refine ae (fun _=>?_) (fun _=>?_)|refine aq ?_)
     refine aT (ak [] y3 ?_ ?_);·exact aF
     repeat'(first|refine ad ?_|refine dk ?_|refine ae (fun _=>?_) (fun _=>?_)|refine aq ?_)
     apply ak [(0,_),(2,_),(3,_)] cs;·exact aF
     repeat'(first|refine ad ?_|refine dk ?_|refine ae (fun _=>?_) (fun _=>?_)|refine aq ?_)
     apply aG (k+1) [(17,_),(18,_)] (by omega) (by omega);((repeat' constructor)<;>(first|refine aI ?_|rfl)<;>first|exact oT|skip);all_goals (first|(rw[y4];done)|skip)
    ·refine ad ?_;refine ak [(0,1)] y1 ?_ ?_;·(try simp only[aE]);exact aF
     repeat'(first|refine ad ?_|refine dk ?_|refine ae (fun _=>?_) (fun _=>?_)|refine aq ?_)
     refine ak [(0,1)] y2 ?_ ?_;·(try simp only[aE]);exact aF
     refine ai hck ?_;repeat'(first|refine ad ?_|refine dk ?_|refine ae (fun _=>?_) (fun _=>?_)|refine aq ?_)
     refine aT (ak [] y3 ?_ ?_);·exact aF
     repeat'(first|refine ad ?_|refine dk ?_|refine ae (fun _=>?_) (fun _=>?_)|refine aq ?_)
     apply ak [(0,_),(2,_),(3,_)] cs;·exact aF
     repeat'(first|refine ad ?_|refine dk ?_|refine ae (fun _=>?_) (fun _=>?_)|refine aq ?_)
     apply aG (k+1) [(17,_),(18,_)] (by omega) (by omega);((repeat' constructor)<;>(first|refine aI ?_|rfl)<;>first|exact oT|skip);all_goals (first|(rw[y4];done)|skip)
   ·obtain rfl:k=m:=by omega
    repeat'(first|refine ad ?_|refine dk ?_|refine ae (fun _=>?_) (fun _=>?_)|refine aq ?_)
    refine ak [(0,1)] c6 ?_ ?_;·(try simp only[aE]);exact aF
    rcases hsel with⟨h7,rfl,rfl⟩|⟨h7,rfl,rfl⟩
    ·refine aj h7 ?_;repeat'(first|refine ad ?_|refine dk ?_|refine ae (fun _=>?_) (fun _=>?_)|refine aq ?_)
     refine ak [(0,1)] c7 ?_ ?_;·(try simp only[aE]);exact aF
     repeat'(first|refine ad ?_|refine dk ?_|refine ae (fun _=>?_) (fun _=>?_)|refine aq ?_)
     apply ak [(0,_),(2,_),(3,_)] cS;·exact aF
     repeat'(first|refine ad ?_|refine dk ?_|refine ae (fun _=>?_) (fun _=>?_)|refine aq ?_)
     apply aw [(16,_),(17,_)];exact aF
    ·refine ai h7 ?_;repeat'(first|refine ad ?_|refine dk ?_|refine ae (fun _=>?_) (fun _=>?_)|refine aq ?_)
     apply aw [(16,_),(17,_)];exact aF
theorem actE (h:SM c p ev st nx)(hl:ev.length≤45)(hi:i≤l.length)(hll:l.length≤1000000):gD G c p ev st nx l i:=by
 obtain⟨r,i1,hr,g1,c1⟩:=bR l i 14 hi hll (by omega);have k:(r=0∨r=1)∨r=2∨r=3∨r=4∨r=5∨r=6∨r=7∨r=8∨r=9∨r=10∨r=11∨r=12∨r=13:=by omega
 rcases k with k|k|k|k|k|k|k|k|k|k|k|k|k;·exact Ir h hl hll g1 c1 (by omega)
 ·exact act2 h hl hll g1 c1 (by omega)
 ·exact act3 h hl hll g1 c1 (by omega)
 ·exact act4 h hl hll g1 c1 (by omega)
 ·exact act5 h hl hll g1 c1 (by omega)
 ·exact act6 h hl hll g1 c1 (by omega)
 ·exact act7 h hl hll g1 c1 (by omega)
 ·exact act8 h hl hll g1 c1 (by omega)
 ·exact act9 h hl hll g1 c1 (by omega)
 ·exact act10 h hl hll g1 c1 (by omega)
 ·exact act11 h hl hll g1 c1 (by omega)
 ·exact act12 h hl hll g1 c1 (by omega)
 ·exact act13 h hl hll g1 c1 (by omega)
end
end Go.Proofs.YtgfdbddglhblbaaGreat
