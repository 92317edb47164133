/- A part of the proof of what is stated of the erasing of a mirror. -/
import Derived.Test.YtgfdbddglhblbaaGreatQat
import Derived.Test.YtgfdbddglhblbaaGreatQaq
import Derived.Test.YtgfdbddglhblbaaGreatQap
import Derived.Test.YtgfdbddglhblbaaGreatQar
import Derived.Test.YtgfdbddglhblbaaGreatQas
import Derived.Laws.StructEq
import Derived.WalkKit
import Derived.Test.YtgfdbddglhblbaaGreatQaj
set_option maxHeartbeats 64000000
namespace Go.Proofs.YtgfdbddglhblbaaGreat
open Go.Eng
attribute [local irreducible] aO
set_option maxRecDepth 100000
structure eo (n:Int)(len:Nat)(r:Ro):Prop where
 st:0≤r.st∧r.st≤4
 sg:0≤r.sg∧r.sg<len
 he:0≤r.he∧r.he≤n
 tt:0≤r.tt∧r.tt≤1000000000
 er:0≤r.er∧r.er≤1000000000
 ag:0≤r.ag∧r.ag≤n
def wy (r:Ro)(b:Bool):Ro:=if r.st=1 then⟨r.st,r.sg,r.he,mN r.tt 1,mN r.er (b01 b),r.ag⟩ else r
theorem lU (r:Ro)(b:Bool):ay (CG G) 113 [oW r,.b b] [oW (wy r b)]:=by
 have h:=C7 r.tt r.er r.ag b;unfold sI at h;unfold oW;refine ay.mk (n:=14) Tryz.func113 rfl rfl rfl (Nat.le_of_ble_eq_true rfl) (ad ?_);refine ae (fun h1=>?_) (fun h1=>?_);·refine ah h (aN ?_);rw[show wy r b=⟨r.st,r.sg,r.he,mN r.tt 1,mN r.er (b01 b),r.ag⟩ from if_pos h1]
 ·refine aN ?_;rw[show wy r b=r from if_neg h1]
def Hy (r:Ro)(p:Pl):Ro:=if r.he+1≠p.ho then⟨r.st,r.sg,r.he+1,r.tt,r.er,r.ag⟩ else if r.sg+1<(p.ws.length:Int) then⟨r.st,r.sg+1,0,r.tt,r.er,r.ag⟩ else qU 2
def oV (r:Ro)(p:Pl):Ro:=if r.st≠1 then r else if(iq r.tt r.er r.ag p.wi).2=false then⟨r.st,r.sg,r.he,(iq r.tt r.er r.ag p.wi).1.1,(iq r.tt r.er r.ag p.wi).1.2.1,(iq r.tt r.er r.ag p.wi).1.2.2⟩ else if uv p r.tt r.er=3 then qU 3 else if uv p r.tt r.er=1 then⟨r.st,r.sg,0,0,0,0⟩ else if uv p r.tt r.er=2 then Hy ⟨r.st,r.sg,r.he,0,0,0⟩ p else⟨r.st,r.sg,r.he,0,0,0⟩
theorem zf {tt er ag len:Int}(h:(iq tt er ag len).2=true):(iq tt er ag len).1=(0,0,0):=by
 unfold iq at*;split;·rfl
 ·rename_i h1;rw[if_neg h1] at h;cases h
theorem JI (r:Ro)(p:Pl)(h1:r.he≤1000000000∧0≤r.he)(h2:0≤r.sg∧r.sg<p.ws.length)(h3:r.ag≤1000000000)(hl:p.ws.length≤1000000000):ay (CG G) 72 [oW r,sr p] [oW (oV r p)]:=by
 have hlen:(p.ws.map (D.i .i64)).length=p.ws.length:=by simp
 have hw:=GU r.tt r.er r.ag p.wi (by omega);have hv:=zn p r.tt r.er r.ag (by omega);have ht:=zf (tt:=r.tt) (er:=r.er) (ag:=r.ag) (len:=p.wi);unfold oV;generalize iq r.tt r.er r.ag p.wi=w at*;obtain⟨⟨a,b,c⟩,d⟩:=w;generalize uv p r.tt r.er=v at*;have hf:Hy ⟨r.st,r.sg,r.he,0,0,0⟩ p=if r.he+1≠p.ho then⟨r.st,r.sg,r.he+1,0,0,0⟩ else if r.sg+1<(p.ws.length:Int) then⟨r.st,r.sg+1,0,0,0,0⟩ else qU 2:=rfl;rw[hf];unfold oW sr sI at*;simp only at*;refine ay.mk (n:=60) Tryz.func72 rfl rfl rfl (Nat.le_of_ble_eq_true rfl) (ad ?_);refine ae (fun g1=>?_) (fun g1=>?_);·refine aN ?_;rw[if_pos g1]
 ·refine ah hw (ad ?_);cases d;·refine aN ?_;rw[if_neg g1,if_pos rfl]
  ·obtain⟨rfl,rfl,rfl⟩:a=0∧b=0∧c=0:=by have:=ht rfl;simp at this;exact this
   refine ad (ah hv ?_);refine ae (fun g2=>?_) (fun g2=>?_);·refine aN ?_;rw[if_neg g1,if_neg (by decide),if_pos g2];rfl
   ·refine ae (fun g3=>?_) (fun g3=>?_);·refine aN ?_;rw[if_neg g1,if_neg (by decide),if_neg g2,if_pos g3]
    ·refine ae (fun g4=>?_) (fun g4=>?_)
     ·refine aq ?_;refine ae (fun g5=>?_) (fun g5=>?_)
      ·refine aq ?_;refine ae (fun g6=>?_) (fun g6=>?_);·rw[hlen] at g6;refine aN ?_;rw[if_neg g1,if_neg (by decide),if_neg g2,if_neg g3,if_pos g4,if_neg (by omega),if_neg (by omega)];rfl
       ·rw[hlen] at g6;refine aN ?_;rw[if_neg g1,if_neg (by decide),if_neg g2,if_neg g3,if_pos g4,if_neg (by omega),if_pos (by omega)]
      ·refine aN ?_;rw[if_neg g1,if_neg (by decide),if_neg g2,if_neg g3,if_pos g4,if_pos (by omega)]
     ·refine aN ?_;rw[if_neg g1,if_neg (by decide),if_neg g2,if_neg g3,if_neg g4]
def jV (r:Ro)(c:Int):Ro×Int:=if c=1 then(if r.st=0 then(qU 1,0) else(qU 0,7)) else if c=2 then(if r.st=1 then(⟨4,r.sg,r.he,r.tt,r.er,r.ag⟩,0) else(qU 0,7)) else if c=3 then(if r.st=4 then(⟨1,r.sg,r.he,r.tt,r.er,r.ag⟩,0) else(qU 0,7)) else if c=4 then(if r.st=1∨r.st=4 then(qU 2,0) else(qU 0,7)) else if c=5 then(if r.st=1∨r.st=4∨r.st=2 then(qU 3,0) else(qU 0,7)) else if c=6 then(qU 0,0) else(qU 0,1)
theorem Lx (r:Ro)(c:Int):ay (CG G) 213 [oW r,.i .i64 c] [oW (jV r c).1,.i .i64 (jV r c).2]:=by
 unfold jV;unfold oW;refine mD 56 Tryz.func213 ?_;refine ae (fun a1=>?_) (fun a1=>?_)
 ·have a1:r.st=1:=a1;rw[a1];refine ad ?_;refine ae (fun c1=>?_) (fun c1=>?_);·have c1:c=1:=c1;subst c1;refine ai (by decide) (ad ?_);rfl
  refine ae (fun c2=>?_) (fun c2=>?_);·have c2:c=2:=c2;subst c2;refine aj (by decide) ?_;rfl
  refine ae (fun c3=>?_) (fun c3=>?_);·have c3:c=3:=c3;subst c3;refine ai (by decide) (ad ?_);rfl
  refine ae (fun c4=>?_) (fun c4=>?_);·have c4:c=4:=c4;subst c4;refine ad ?_;rfl
  refine ae (fun c5=>?_) (fun c5=>?_);·have c5:c=5:=c5;subst c5;refine ad ?_;rfl
  refine ae (fun c6=>?_) (fun c6=>?_);·have c6:c=6:=c6;subst c6;refine ad ?_;rfl
  refine aN ?_;rw[if_neg c1,if_neg c2,if_neg c3,if_neg c4,if_neg c5,if_neg c6];rfl
 ·have a1:r.st≠1:=a1;refine ae (fun a4=>?_) (fun a4=>?_)
  ·have a4:r.st=4:=a4;rw[a4];refine ad ?_;refine ae (fun c1=>?_) (fun c1=>?_);·have c1:c=1:=c1;subst c1;refine ai (by decide) (ad ?_);rfl
   refine ae (fun c2=>?_) (fun c2=>?_);·have c2:c=2:=c2;subst c2;refine ai (by decide) (ad ?_);rfl
   refine ae (fun c3=>?_) (fun c3=>?_);·have c3:c=3:=c3;subst c3;refine aj (by decide) ?_;rfl
   refine ae (fun c4=>?_) (fun c4=>?_);·have c4:c=4:=c4;subst c4;refine ad ?_;rfl
   refine ae (fun c5=>?_) (fun c5=>?_);·have c5:c=5:=c5;subst c5;refine ad ?_;rfl
   refine ae (fun c6=>?_) (fun c6=>?_);·have c6:c=6:=c6;subst c6;refine ad ?_;rfl
   refine aN ?_;rw[if_neg c1,if_neg c2,if_neg c3,if_neg c4,if_neg c5,if_neg c6];rfl
  ·have a4:r.st≠4:=a4;have Mv:¬(r.st=1∨r.st=4):=fun h=>h.elim a1 a4;have n142:(r.st=1∨r.st=4∨r.st=2)↔r.st=2:=⟨fun h=>h.elim (fun h=>absurd h a1) fun h=>h.elim (fun h=>absurd h a4) id,fun h=>.inr (.inr h)⟩;refine ad ?_;refine ae (fun c1=>?_) (fun c1=>?_)
   ·have c1:c=1:=c1;subst c1;refine ae (fun b=>?_) (fun b=>?_);·refine ad (aN ?_);rw[if_pos rfl,if_pos b];rfl
    ·refine ad (aN ?_);rw[if_pos rfl,if_neg b];rfl
   refine ae (fun c2=>?_) (fun c2=>?_);·have c2:c=2:=c2;subst c2;refine ai a1 (ad (aN ?_));rw[if_neg c1,if_pos rfl,if_neg a1];rfl
   refine ae (fun c3=>?_) (fun c3=>?_);·have c3:c=3:=c3;subst c3;refine ai a4 (ad (aN ?_));rw[if_neg c1,if_neg c2,if_pos rfl,if_neg a4];rfl
   refine ae (fun c4=>?_) (fun c4=>?_);·have c4:c=4:=c4;subst c4;refine ad (aN ?_);rw[if_neg c1,if_neg c2,if_neg c3,if_pos rfl,if_neg Mv];rfl
   refine ae (fun c5=>?_) (fun c5=>?_)
   ·have c5:c=5:=c5;subst c5;refine ae (fun b=>?_) (fun b=>?_);·refine ad (aN ?_);rw[if_neg c1,if_neg c2,if_neg c3,if_neg c4,if_pos rfl,if_pos (n142.2 b)];rfl
    ·refine ad (aN ?_);rw[if_neg c1,if_neg c2,if_neg c3,if_neg c4,if_pos rfl,if_neg (fun h=>b (n142.1 h))];rfl
   refine ae (fun c6=>?_) (fun c6=>?_);·have c6:c=6:=c6;subst c6;refine ad ?_;rfl
   refine aN ?_;rw[if_neg c1,if_neg c2,if_neg c3,if_neg c4,if_neg c5,if_neg c6];rfl
def Kg (r:Ro)(p:Pl)(x:Int×Int):Ro:=if x.1=1 then oV r p else if x.1=2∨x.1=3 then wy r (decide (x.1=3)) else if x.1=4 then(if(jV r x.2).2=0 then(jV r x.2).1 else r) else r
theorem yY {n:Int}{len:Nat}(hn:0≤n)(hl:1≤len){s:Int}(hs:0≤s∧s≤4):eo n len (qU s):=by refine⟨hs,?_,?_,?_,?_,?_⟩<;>simp only[qU]<;>omega
theorem nq {n:Int}{len:Nat}{r:Ro}(hl:1≤len)(hn:0≤n)(h:eo n len r)(c:Int):eo n len (jV r c).1:=by
 obtain⟨g1,g2,g3,g4,g5,g6⟩:=h;have z:∀s,0≤s∧s≤4→eo n len (qU s):=fun s hs=>yY hn hl hs;unfold jV;repeat' split
 all_goals first|exact z _ (by omega)|exact⟨by simp only;omega,g2,g3,g4,g5,g6⟩
theorem IC {n:Int}{p:Pl}{r:Ro}(hl:1≤p.ws.length)(hn:0≤n)(h:eo n p.ws.length r)(x:Int×Int):eo (n+1) p.ws.length (Kg r p x):=by
 have up:∀{q:Ro},eo n p.ws.length q→eo (n+1) p.ws.length q:=fun h=>⟨h.st,h.sg,⟨h.he.1,by have:=h.he.2;omega⟩,h.tt,h.er,⟨h.ag.1,by have:=h.ag.2;omega⟩⟩;have z:∀s,0≤s∧s≤4→eo (n+1) p.ws.length (qU s):=fun s hs=>yY (by omega) hl hs;unfold Kg;split
 ·unfold oV;split;·exact up h
  ·split;·rename_i hw;obtain⟨g1,g2,g3,g4,g5,g6⟩:=h;refine⟨g1,g2,⟨g3.1,by simp only;omega⟩,?_,?_,?_⟩<;>unfold iq<;>split<;>simp only<;>omega
   ·split;·exact z 3 (by decide)
    ·obtain⟨g1,g2,g3,g4,g5,g6⟩:=h;split;·exact⟨g1,g2,⟨by simp only;omega,by simp only;omega⟩,by simp only;omega,by simp only;omega,by simp only;omega⟩
     ·split
      ·unfold Hy;split;·exact⟨g1,g2,⟨by simp only;omega,by simp only;omega⟩,by simp only;omega,by simp only;omega,by simp only;omega⟩
       ·split;·rename_i hs;simp only at hs;exact⟨g1,⟨by simp only;omega,by simp only;omega⟩,⟨by simp only;omega,by simp only;omega⟩,by simp only;omega,by simp only;omega,by simp only;omega⟩
        ·exact z 2 (by decide)
      ·exact⟨g1,g2,⟨by simp only;omega,by simp only;omega⟩,by simp only;omega,by simp only;omega,by simp only;omega⟩
 ·split
  ·unfold wy;split;·obtain⟨g1,g2,g3,g4,g5,g6⟩:=h;exact⟨g1,g2,⟨g3.1,by simp only;omega⟩,pw _ _,pw _ _,⟨g6.1,by simp only;omega⟩⟩
   ·exact up h
  ·split
   ·split;·exact up (nq hl hn h _)
    ·exact up h
   ·exact up h
def fY (l:List Int):Nat→Nat→Int→List Int→List Int×Nat|0,i,_,acc=>(acc,i)|k+1,i,w,acc=>fY l k (bQ l i) (w+1+(i0 l i 3300:Int)) (acc++[w+1+(i0 l i 3300:Int)])
theorem tQ (l:List Int):∀(k i:Nat)(w:Int)(acc:List Int),(fY l k i w acc).1.length=acc.length+k|0,_,_,_=>rfl|k+1,i,w,acc=>by rw[fY,tQ l k];simp;omega
theorem tV (l:List Int):∀(k i:Nat)(w:Int)(acc:List Int),i≤l.length→i≤(fY l k i w acc).2∧(fY l k i w acc).2≤l.length|0,i,_,_,h=>⟨Nat.le_refl i,h⟩|k+1,i,w,acc,h=>by have h1:=b6 h;have:=tV l k (bQ l i) (w+1+(i0 l i 3300:Int)) (acc++[w+1+(i0 l i 3300:Int)]) h1.2;rw[fY];omega
def wu (l:List Int)(i:Nat):Nat:=bQ l (bQ l (bQ l (bQ l (bQ l i))))
def fy (l:List Int)(i:Nat):Pl×Nat:=(⟨(fY l (1+i0 l (wu l i) 3) (bQ l (wu l i)) 0 []).1,1+(i0 l i 3:Int),(i0 l (bQ l i) 3:Int),1+(i0 l (bQ l (bQ l i)) 4:Int),1+(i0 l (bQ l (bQ l (bQ l i))) 3:Int),1+(i0 l (bQ l (bQ l (bQ l (bQ l i)))) 4:Int)⟩,(fY l (1+i0 l (wu l i) 3) (bQ l (wu l i)) 0 []).2)
theorem lW (l:List Int)(i:Nat):1≤(fy l i).1.ws.length∧(fy l i).1.ws.length≤3:=by have:=cB l (wu l i) 3 (by decide);simp only[fy,tQ,Nf];omega
theorem Ll (l:List Int)(i:Nat)(hi:i≤l.length)(hl:l.length≤9223372036854775807):aH (CG G) 43 [.op 0 0 0] (aE l i) [.d (sr (fy l i).1)] (aE l (fy l i).2):=by
 have n1:=b6 hi;have n2:=b6 n1.2;have n3:=b6 n2.2;have n4:=b6 n3.2;have n5:=b6 n4.2;have n6:=b6 n5.2;have c1:=ip l i 3 hi hl (by decide);have c2:=ip l (bQ l i) 3 n1.2 hl (by decide);have c3:=ip l (bQ l (bQ l i)) 4 n2.2 hl (by decide);have c4:=ip l (bQ l (bQ l (bQ l i))) 3 n3.2 hl (by decide);have c5:=ip l (bQ l (bQ l (bQ l (bQ l i)))) 4 n4.2 hl (by decide);have c6:=ip l (bQ l (bQ l (bQ l (bQ l (bQ l i))))) 3 n5.2 hl (by decide);have v1:=cB l i 3 (by decide);have v2:=cB l (bQ l i) 3 (by decide);have v3:=cB l (bQ l (bQ l i)) 4 (by decide);have v4:=cB l (bQ l (bQ l (bQ l i))) 3 (by decide);have v5:=cB l (bQ l (bQ l (bQ l (bQ l i)))) 4 (by decide);have v6:=cB l (bQ l (bQ l (bQ l (bQ l (bQ l i))))) 3 (by decide);unfold fy wu;generalize hfin:fY l (1+i0 l (bQ l (bQ l (bQ l (bQ l (bQ l i))))) 3) (bQ l (bQ l (bQ l (bQ l (bQ l (bQ l i)))))) 0 []=fin;generalize bQ l (bQ l (bQ l (bQ l (bQ l (bQ l i)))))=p6 at*;generalize i0 l (bQ l (bQ l (bQ l (bQ l (bQ l i))))) 3=k at*;generalize i0 l i 3=e1 at*;generalize i0 l (bQ l i) 3=e2 at*;generalize i0 l (bQ l (bQ l i)) 4=e3 at*;generalize i0 l (bQ l (bQ l (bQ l i))) 3=e4 at*;generalize i0 l (bQ l (bQ l (bQ l (bQ l i)))) 4=e5 at*;unfold aE sr at*;refine mH 40 Tryz.func43 ?_;refine ak [(0,0)] c1 ?_ ?_;·exact aF
 refine aq ?_;refine ak [(0,0)] c2 ?_ ?_;·exact aF
 refine ak [(0,0)] c3 ?_ ?_;·exact aF
 refine aq ?_;refine ak [(0,0)] c4 ?_ ?_;·exact aF
 refine aq ?_;refine ak [(0,0)] c5 ?_ ?_;·exact aF
 refine ar ⟨by omega,by omega⟩ (ad ?_);refine ak [(0,0)] c6 ?_ ?_;·exact aF
 refine aq ?_;apply aA (fun x:Nat×Nat×Int×List Int=>x.2.1≤l.length∧(0≤x.2.2.1∧x.2.2.1+10000*(x.1:Int)≤1000000)∧x.2.2.2.length+x.1≤100∧fY l x.1 x.2.1 x.2.2.1 x.2.2.2=fin) (fun x=>⟨[(0,.op 0 0 0),(2,.op 16 0 0),(3,.op 17 0 0),(4,dI x.2.2.1),(5,dI (x.1:Int))],[(0,some (.box [.d (ft l),dI (x.2.1:Int)])),(16,some (.box [.nl 1,dI 0,dI 0,dI 0,dI 0,dI 0])),(17,some (.box [.os 18,dI (1+(e1:Int)),dI (e2:Int),dI (1+(e3:Int)),dI (1+(e4:Int)),dI (1+(e5:Int))])),(18,some (.buf 1 (x.2.2.2.map (.i .i64))))],2⟩) (fun x=>x.1) (1+k,p6,0,[]) ⟨n6.2,by simp only;omega,by simp only[Nf];omega,hfin⟩ [(16,_),(17,_),(18,14)];·exact aF
 ·rintro⟨j,q,w,acc⟩ ⟨h1,h2,h3,h4⟩;simp only at h1 h2 h3 h4;refine ad ?_;refine ae (fun h=>?_) (fun h=>?_)
  ·obtain⟨j,rfl⟩:∃m,j=m+1:=⟨j-1,by omega⟩;have cn:=ip l q 3300 h1 hl (by decide);have vn:=cB l q 3300 (by decide);rw[fY] at h4;unfold aE at cn;generalize i0 l q 3300=g at*;refine ad (ar (e:=w+1) ⟨by omega,by omega⟩ ?_);refine ak [(0,0)] cn ?_ ?_;·exact aF
   refine ar (e:=w+1+(g:Int)) ⟨by omega,by omega⟩ (aB (by simp;omega) (ar ⟨by omega,by omega⟩ ?_));apply aG (j,bQ l q,w+1+(g:Int),acc++[w+1+(g:Int)]) [(16,_),(17,_),(18,_)] ⟨(b6 h1).2,by simp only;omega,by simp;omega,h4⟩ (by simp only;omega);exact aF
  ·obtain rfl:j=0:=by omega
   rw[fY] at h4;subst h4;apply aw [];exact aF
def uh:List UInt8:=[47,114,111,108,108,111,117,116]
def qO:List UInt8:=[47,114,111,108,108,111,117,116,47]
def xC (n:List UInt8):Nat:=if n=lF.getD 1 [] then 1 else if n=lF.getD 2 [] then 2 else if n=lF.getD 3 [] then 3 else if n=lF.getD 4 [] then 4 else if n=lF.getD 5 [] then 5 else if n=lF.getD 6 [] then 6 else 0
theorem Au {n:List UInt8}(h:∀j,0<j→j<7→lF.getD j []≠n):xC n=0:=by unfold xC;rw[if_neg (fun e=>h 1 (by decide) (by decide) e.symm),if_neg (fun e=>h 2 (by decide) (by decide) e.symm),if_neg (fun e=>h 3 (by decide) (by decide) e.symm),if_neg (fun e=>h 4 (by decide) (by decide) e.symm),if_neg (fun e=>h 5 (by decide) (by decide) e.symm),if_neg (fun e=>h 6 (by decide) (by decide) e.symm)]
def fI (p:List UInt8):Nat:=if p.take 9=qO then xC (p.drop 9) else 0
def pM (st:Int):List UInt8:=if 0≤st∧st<5 then GP.getD st.toNat [] else[]
def fV (r:Ro)(p:Pl):Int:=if r.st=1∨r.st=4 then nt p r.sg else if r.st=2 then 10000 else 0
theorem Ad:∀(k u:Nat),u<10^(k+1)→(gg 10 u).length≤k+1
 |0,u,h=>by rw[dQ (by simpa using h)];simp;|k+1,u,h=>by
  by_cases h1:u<10;·rw[dQ h1];simp
  ·rw[fg (by omega) h1];have:=Ad k (u/10) (by rw[Nat.pow_succ] at h;omega);simp only[Na,Nb,Nf];omega
theorem dq {n:Int}(h:fT n):(fj n).length≤32:=by
 have h1:=h.1;have h2:=h.2;unfold fj;split;·have:=Ad 19 n.natAbs (by have:(10:Nat)^(19+1)=100000000000000000000:=(by decide);omega);simp only[Nb];omega
 ·have:=Ad 19 n.toNat (by have:(10:Nat)^(19+1)=100000000000000000000:=(by decide);omega);omega
def fh (l:List (List UInt8)):Nat:=(l.map fun x=>x.length+1).sum
theorem ff (x:List UInt8)(l:List (List UInt8)):fh (x::l)=x.length+1+fh l:=by simp[fh]
theorem Ep (l m:List (List UInt8)):fh (l++m)=fh l+fh m:=by simp[fh]
theorem G9 (l:List (List UInt8)):l.length≤fh l:=by induction l with|nil=>simp;|cons x l ih=>rw[ff,Nb];omega
theorem E3 {l:List (List UInt8)}{x:List UInt8}(h:x∈l):x.length+1≤fh l:=by induction l with|nil=>cases h;|cons y l ih=>
 rw[ff];rcases List.mem_cons.1 h with rfl|h;·omega
 ·have:=ih h;omega
theorem yl (f:List UInt8→List UInt8)(c:Nat)(hf:∀x,(f x).length+1≤c*(x.length+1))(l:List (List UInt8)):fh (l.map f)≤c*fh l:=by induction l with|nil=>simp[fh];|cons x l ih=>have:=hf x;rw[Nw,ff,ff,Nat.mul_add];omega
theorem eJ (c:UInt8):∀(l:List (List UInt8)),(bF l [c]).length≤fh l
 |[]=>by simp[bF,Lib.join,List.intercalate];|[x]=>by simp[bF,Lib.join,List.intercalate,fh];|x::y::l=>by
  have h1:=eJ c (y::l);have e:bF (x::y::l) [c]=x++[c]++bF (y::l) [c]:=by simp[bF,Lib.join,List.intercalate]
  rw[e,ff];simp only[Na,Nb,Nf];omega
structure o9 (x:dJ):Prop where
 h1:fT x.ser
 h2:fT x.exc
 h3:fT x.rea
 hs:fh x.fl≤1048576
theorem zP (x:dJ)(h:o9 x):fh (NJ x)≤99:=by have:=dq h.h1;have:=dq h.h2;have:=dq h.h3;simp only[NJ,fh,List.map_nil,List.sum_nil,Nw,List.sum_cons];omega
theorem tl (x:dJ)(h:o9 x):fh (eT x)≤8000000:=by
 have h0:=zP x h;have hm:=yl (iA++·) 7 (fun y=>by simp[iA];omega) x.fl;have hs:=h.hs;unfold eT eW dW lS;split
 ·simp only[Ep];have a1:fh (if oK x.st x.bo x.fl=true then[A8] else[])≤10:=by split<;>decide
  have a2:fh (if x.st=true then[lp] else[])≤10:=by split<;>decide
  have a3:fh (if x.bo=true then[wz] else[])≤10:=by split<;>decide
  omega
 ·omega
theorem xD (x:dJ)(h:o9 x):FP x:=by have h1:=G9 x.fl;have h2:=eJ 32 (eT x);have h3:=tl x h;have hs:=h.hs;exact⟨h.h1,h.h2,h.h3,dq h.h1,dq h.h2,dq h.h3,by omega,fun y hy=>by have:=E3 hy;omega,by omega⟩
theorem Ek (l:List (List UInt8)):(CK l).length≤fh l+2:=by have:=eJ 44 l;simp only[CK,Na,Nb,Nf];omega
theorem C9 (x:dJ)(h:o9 x):(np x).length≤8000001:=by have h2:=eJ 32 (eT x);have h3:=tl x h;simp only[np,Na,Nb,Nf];omega
theorem Ba (x:dJ)(h:o9 x):fh (x.fl.map eS)≤7000000:=by have hm:=yl eS 6 (fun y=>by have:=jD y;omega) x.fl;have hs:=h.hs;omega
theorem xS (b:Bool):(LM b).length≤5:=by cases b<;>decide
theorem xe (x:dJ)(h:o9 x):∀p,p∈lB x→p.1.length≤20∧p.2.length≤7000002:=by
 have:=dq h.h1;have:=dq h.h2;have:=dq h.h3;have h4:=Ek (x.fl.map eS);have h5:=Ba x h;have:=xS x.st;have:=xS x.bo;intro p hp;unfold lB at hp;rcases Np.1 hp with hp|hp;·simp only[oO,List.mem_cons,List.not_mem_nil,or_false] at hp;rcases hp with rfl|rfl|rfl<;>exact⟨Nat.le_of_ble_eq_true rfl,by simp only;omega⟩
 ·split at hp;·simp only[List.mem_cons,List.not_mem_nil,or_false] at hp;rcases hp with rfl|rfl|rfl<;>exact⟨Nat.le_of_ble_eq_true rfl,by simp only;omega⟩
  ·cases hp
theorem yc (x:dJ)(h:o9 x):fh ((lB x).map jS)≤60000000:=by
 have key:∀l:List (List UInt8×List UInt8),(∀p,p∈l→p.1.length≤20∧p.2.length≤7000002)→fh (l.map jS)≤l.length*7000200:=by intro l hl;induction l with|nil=>simp[fh];|cons p l ih=>have h1:=hl p (by simp);have h2:=ih fun q hq=>hl q (by simp[hq]);have h3:=jD p.1;rw[Nw,ff,Nb];simp only[jS,Na,Nb,Nf];omega
 have h1:=key (lB x) (xe x h);have h2:(lB x).length≤6:=by unfold lB oO;split<;>simp
 omega
theorem JP (x:dJ)(h:o9 x):JsOk x:=by have h1:=eJ 44 (x.fl.map eS);have h2:=Ba x h;have h3:=eJ 44 ((lB x).map jS);have h4:=yc x h;exact⟨by omega,fun p hp=>by have:=xe x h p hp;omega,by omega⟩
theorem FM (x:dJ)(h:o9 x):(sL x).length≤60000002:=by have h3:=eJ 44 ((lB x).map jS);have h4:=yc x h;simp only[sL,uU,Na,Nb,Nf];omega
theorem F3 (l:List dJ)(h:∀x,x∈l→o9 x):(eB l).length≤l.length*8000001:=by induction l with|nil=>simp[eB];|cons x l ih=>
 have h1:=C9 x (h x (by simp));have h2:=ih fun y hy=>h y (by simp[hy]);have e:eB (x::l)=np x++eB l:=by simp[eB]
 rw[e,Na,Nb];omega
theorem wL (l:List dJ)(h:∀x,x∈l→o9 x):(bF (l.map sL) [44]).length≤l.length*60000003:=by refine Nat.le_trans (eJ 44 _) ?_;induction l with|nil=>simp[fh];|cons x l ih=>have h1:=FM x (h x (by simp));have h2:=ih fun y hy=>h y (by simp[hy]);rw[Nw,ff,Nb];omega
def eA (x:Ro)(p:Pl):List (List UInt8×List UInt8):=[([115,116,97,116,101],eS (pM x.st)),([115,116,97,103,101],fj x.sg),([104,101,97,108,116,104,121],fj x.he),([119,101,105,103,104,116],fj (fV x p)),([116,111,116,97,108],fj x.tt),([101,114,114,111,114,115],fj x.er)]
def eO (x:Ro)(p:Pl):List UInt8:=uU (eA x p)++[10]
theorem tZ (st:Int):(pM st).length≤10:=by
 unfold pM;split
 ·have:∀i:Fin 5,(GP.getD i.val []).length≤10:=by decide
  rename_i h;exact this ⟨st.toNat,by omega⟩
 ·decide
structure Io (x:Ro)(p:Pl):Prop where
 sg:fT x.sg
 he:fT x.he
 wt:fT (fV x p)tt:fT x.tt
 er:fT x.er
theorem rO (x:Ro)(p:Pl)(h:Io x p):fh ((eA x p).map jS)≤2000∧∀q,q∈eA x p→q.1.length≤7∧q.2.length≤100:=by
 have h1:=dq h.sg;have h2:=dq h.he;have h3:=dq h.wt;have h4:=dq h.tt;have h5:=dq h.er;have h6:=jD (pM x.st);have h7:=tZ x.st;have key:∀l:List (List UInt8×List UInt8),(∀q,q∈l→q.1.length≤7∧q.2.length≤100)→fh (l.map jS)≤l.length*200:=by intro l hl;induction l with|nil=>simp[fh];|cons q l ih=>have h1:=hl q (by simp);have h2:=ih fun r hr=>hl r (by simp[hr]);have h3:=jD q.1;rw[Nw,ff,Nb];simp only[jS,Na,Nb,Nf];omega
 have hm:∀q,q∈eA x p→q.1.length≤7∧q.2.length≤100:=by intro q hq;simp only[eA,List.mem_cons,List.not_mem_nil,or_false] at hq;rcases hq with rfl|rfl|rfl|rfl|rfl|rfl<;>exact⟨Nat.le_of_ble_eq_true rfl,by simp only;omega⟩
 have:=key _ hm;have hl:(eA x p).length=6:=rfl;exact⟨by omega,hm⟩
theorem jC (x:Ro)(p:Pl)(h:Io x p):(eO x p).length≤3000:=by have h1:=(rO x p h).1;have h2:=eJ 44 ((eA x p).map jS);simp only[eO,uU,Na,Nb,Nf];omega
structure FZ where
 code:Int
 ct:List UInt8
 text:List UInt8
 body:List UInt8
 ro:Ro
def wX:List UInt8:=[80,79,83,84]
def Bo:List UInt8:=[99,111,110,102,108,105,99,116,10]
def ik (m q:List UInt8)(x:Ro)(p:Pl):FZ:=if q=uh∧(m=m8∨m=cO) then⟨200,om,eO x p,if m=cO then[] else eO x p,x⟩else if 0<fI q∧m=wX then(if(jV x (fI q:Int)).2≠0 then⟨409,eE,Bo,Bo,x⟩ else⟨200,om,eO (jV x (fI q:Int)).1 p,eO (jV x (fI q:Int)).1 p,(jV x (fI q:Int)).1⟩)else if q=uh∨0<fI q then⟨405,eE,xQ,xQ,x⟩ else⟨404,eE,yz,yz,x⟩
theorem ui (l:List Int):∀(k i:Nat)(w:Int)(acc:List Int),0≤w→(∀a,a∈acc→0≤a∧a≤w)→∀a,a∈(fY l k i w acc).1→0≤a∧a≤w+3301*k
 |0,i,w,acc,h0,h,a,ha=>by have:=h a ha;omega;|k+1,i,w,acc,h0,h,a,ha=>by
  have hv:=cB l i 3300 (by decide);rw[fY] at ha;have:=ui l k (bQ l i) (w+1+(i0 l i 3300:Int)) (acc++[w+1+(i0 l i 3300:Int)]) (by omega) (fun b hb=>by
   rcases Np.1 hb with hb|hb;·have:=h b hb;omega
   ·simp at hb;omega) a ha;omega
theorem zL (l:List Int)(i:Nat):∀a,a∈(fy l i).1.ws→0≤a∧a≤20000:=by intro a ha;have hv:=cB l (wu l i) 3 (by decide);have:=ui l _ _ 0 [] (by decide) (by simp) a ha;omega
theorem DX {p:Pl}{s M:Int}(hM:0≤M)(h:∀a,a∈p.ws→0≤a∧a≤M):0≤nt p s∧nt p s≤M:=by
 unfold nt;split
 ·rename_i hs;have hlt:s.toNat<p.ws.length:=by omega
  rw[List.getD_eq_getElem?_getD,No hlt];exact h _ (Nr hlt)
 ·omega
theorem J7 {x:Ro}{p:Pl}{n:Int}{len:Nat}(h:eo n len x)(hn:n≤1000000)(hl:len≤1000)(hw:∀a,a∈p.ws→0≤a∧a≤20000):Io x p:=by
 obtain⟨h1,h2,h3,h4,h5,h6⟩:=h;have hs:=DX (s:=x.sg) (by decide) hw;refine⟨⟨by omega,by omega⟩,⟨by omega,by omega⟩,?_,⟨by omega,by omega⟩,⟨by omega,by omega⟩⟩;unfold fV;split;·exact⟨by omega,by omega⟩
 ·split<;>exact⟨by decide,by decide⟩
theorem MM (st:Int):ay (CG G) 233 [.i .i64 st] [.s (pM st)]:=by
 refine ay.mk (n:=14) Tryz.func233 rfl rfl rfl (Nat.le_of_ble_eq_true rfl) (ad ?_);refine ae (fun h=>?_) (fun h0=>?_);·have h:st=0:=h;subst h;rfl
 refine ae (fun h=>?_) (fun h1=>?_);·have h:st=1:=h;subst h;rfl
 refine ae (fun h=>?_) (fun h2=>?_);·have h:st=2:=h;subst h;rfl
 refine ae (fun h=>?_) (fun h3=>?_);·have h:st=3:=h;subst h;rfl
 refine ae (fun h=>?_) (fun h4=>?_);·have h:st=4:=h;subst h;rfl
 refine aN ?_;have h0:¬st=0:=h0;have h1:¬st=1:=h1;have h2:¬st=2:=h2;have h3:¬st=3:=h3;have h4:¬st=4:=h4;rw[show pM st=[] from if_neg (by omega)]
theorem wm (r:Ro)(p:Pl)(hl:p.ws.length≤9223372036854775806):ay (CG G) 171 [oW r,sr p] [.i .i64 (fV r p)]:=by
 have h:=J2 p r.sg hl;unfold fV;unfold oW sr at*;refine ay.mk (n:=16) Tryz.func171 rfl rfl rfl (Nat.le_of_ble_eq_true rfl) (ad (ad ?_));refine ae (fun h1=>?_) (fun h1=>?_);·refine ah h (aN ?_);rw[if_pos (.inl h1)]
 ·refine ae (fun h2=>?_) (fun h2=>?_);·refine ah h (aN ?_);rw[if_pos (.inr h2)]
  ·refine ae (fun h3=>?_) (fun h3=>?_);·refine aN ?_;rw[if_neg (fun h=>h.elim h1 h2),if_pos h3]
   ·refine aN ?_;rw[if_neg (fun h=>h.elim h1 h2),if_neg h3]
theorem xn (x:Ro)(p:Pl)(h:Io x p)(hl:p.ws.length≤9223372036854775806):ay (CG G) 212 [oW x,sr p] [.s (eO x p)]:=by
 obtain⟨s1,s2⟩:=rO x p h;have s3:=eJ 44 ((eA x p).map jS);have hn:=tZ x.st;have c1:=MM x.st;have c2:=vN (pM x.st) (by omega);have c3:=kg x.sg h.sg;have c4:=kg x.he h.he;have c5:=wm x p hl;have c6:=kg (fV x p) h.wt;have c7:=kg x.tt h.tt;have c8:=kg x.er h.er;have c9:=Ka (eA x p) (by show 6≤_;decide) (fun q hq=>by have:=s2 q hq;omega) (by omega);have e:eO x p=uU (eA x p)++[10]:=rfl;have el:(uU (eA x p)).length≤3000:=by simp only[uU,Na,Nb,Nf];omega
 rw[e];generalize uU (eA x p)=o at*;unfold eA El at c9;simp only[Nw,List.map_nil,rl] at c9;generalize fV x p=wt at*;unfold oW sr at*;refine ay.mk (n:=36) Tryz.func212 rfl rfl rfl (Nat.le_of_ble_eq_true rfl) (ah c1 (ah c2 (ah c3 (ah c4 (ah c5 (ah c6 (ah c7 (ah c8 (ah c9 (bg (by simp;omega) (dk ?_)))))))))));rfl
def qf:List (List UInt8):=lF.drop 1
theorem At {p n:List UInt8}(h:p=qO++n):fI p=xC n:=by subst h;unfold fI;rw[List.take_append_of_le_length (by decide),List.drop_append_of_le_length (by decide),if_pos (by decide),show qO.drop 9=[] by decide,List.nil_append]
theorem Dd {p:List UInt8}(h:∀j,j<6→p≠qO++qf.getD j []):fI p=0:=by
 unfold fI;split
 ·rename_i ht;refine Au fun j h1 h2 he=>(h (j-1) (by omega) ?_);have e:qf.getD (j-1) []=lF.getD j []:=by
   have:∀j:Fin 7,0<j.val→qf.getD (j.val-1) []=lF.getD j.val []:=by decide
   exact this ⟨j,h2⟩ h1
  rw[e,he,←ht,NB]
 ·rfl
theorem CT (p:List UInt8):ay (CG G) 210 [.s p] [.i .i64 (fI p:Int)]:=by
 have hc:qf.length=6:=rfl;have hl:∀i:Fin 6,(qf.getD i.val []).length≤10:=by decide
 have hi6:∀i:Fin 6,xC (qf.getD i.val [])=i.val+1:=by decide
 refine ay.mk (n:=21) Tryz.func210 rfl rfl rfl (Nat.le_of_ble_eq_true rfl) (ad ?_);apply aA (fun i:Nat=>i≤6∧∀j,j<i→p≠qO++qf.getD j []) (fun i=>⟨[(0,.d (.s p)),(3,.os 16),(4,dI (i:Int))],[(16,some (.buf 1 (qf.map .s)))],2⟩) (fun i=>6-i) 0 ⟨by omega,fun j hj=>by omega⟩ [(16,_)];·exact aF
 ·rintro i ⟨hi,hn⟩;refine ad ?_;refine ae (fun h1=>?_) (fun h1=>?_)
  ·have hi':i<6:=by have:(i:Int)<6:=h1;omega
   refine ad (bh i rfl hi' (az (x:=.s (qf.getD i [])) (by simp[hc,hi']) (bg (by have:=hl ⟨i,hi'⟩;simp at this⊢;omega) ?_)));refine ae (fun h2=>?_) (fun h2=>?_);·have h2:p=qO++qf.getD i []:=h2;refine aq ?_;rw[At h2,hi6 ⟨i,hi'⟩];rfl
   ·have h2:p≠qO++qf.getD i []:=h2;refine aq ?_;apply aG (i+1) [(16,_)] ⟨by omega,fun j hj=>by
     by_cases hji:j<i;·exact hn j hji
     ·obtain rfl:j=i:=by omega
      exact h2⟩ (by omega);exact aF
  ·have h1:¬(i:Int)<6:=h1;obtain rfl:i=6:=by omega
   rw[Dd hn];rfl
theorem aH.conv {f:FuncId}{bs bs':List AV}{own:List (Nat×Option aS)}{rs:List AV}{own':List (Nat×Option aS)}(h:aH (CG G) f bs own rs own')(hl:bs'.length=bs.length)(hc:∀(j:Nat)(b:AV),bs[j]?=some b→∃b',bs'[j]?=some b'∧(b'=b∨∃d d',b=.d d∧b'=.d d'∧∀(w:World)(X:Nat→Prop)(v:Value),Rd w X d' v→Rd w X d v)):aH (CG G) f bs' own rs own':=by
 refine⟨h.1,fun w X F α vs hF hs=>h.2 w X F α vs hF ?_⟩;have key:∀t b,Eng.look (db 0 bs) t=some b→∃b',Eng.look (db 0 bs') t=some b'∧(b'=b∨∃d d',b=AV.d d∧b'=AV.d d'∧∀(w:World)(X:Nat→Prop)(v:Value),Rd w X d' v→Rd w X d v):=by intro t b hb;obtain⟨_,h2⟩:=fS bs 0 t b hb;simp only[Nat.sub_zero] at h2;obtain⟨b',h3,h4⟩:=hc t b h2;have:=rr bs' 0 t b' h3;rw[Nat.zero_add] at this;exact⟨b',this,h4⟩
 refine{hs with size:=by rw[←hl];exact hs.size,env:=fun t av ht=>?_,ok:=fun t av ht=>?_}
 ·obtain⟨b',h3,h4⟩:=key t av ht;have h5:=hs.env t b' h3;rcases h4 with rfl|⟨d,d',rfl,rfl,h6⟩;·exact h5
  ·exact .d _ _ (h6 _ _ _ h5.dinv)
 ·obtain⟨b',h3,h4⟩:=key t av ht;have h5:=hs.ok t b' h3;rcases h4 with rfl|⟨d,d',rfl,rfl,h6⟩;·exact h5
  ·exact .d _
def gj (code:Int)(body:List UInt8):AV:=.agg [dI code,.d (.s (du code)),dI 1,.os 16,.d (.sl 1 (aD body))]
theorem makeH (code:Int)(ct body:List UInt8)(ex:List bB)(hb:body.length≤4611686018427387904)(he:ex.length≤1000000):aH (CG G) 162 [dI code,.d (.s ct),.d (.s body),.d (qN ex)] [] [gj code body] [(16,some (.buf 2 ((sF ct body++ex).map aL)))]:=by
 have h1:=gw (body.length:Int) ⟨by omega,by omega⟩;have h2:=nL code;unfold gj qN;refine aH.mk (n:=26) Tryz.func162 rfl rfl rfl (Nat.le_of_ble_eq_true rfl) rfl (ah h1 (ah h2 (aB (by simp;omega) ?_)));repeat'(first|refine ad ?_|refine dk ?_|refine ae (fun _=>?_) (fun _=>?_)|refine aq ?_)
 apply aw [(16,_)];((repeat' constructor)<;>(first|refine aI ?_|rfl)<;>first|exact oT|skip);all_goals (rw[Ng];rfl)
theorem GX (code:Int)(ct body:List UInt8)(hb:body.length≤4611686018427387904):aH (CG G) 162 [dI code,.d (.s ct),.d (.s body),.d (.sl 1 [])] [] [gj code body] [(16,some (.buf 2 ((sF ct body).map aL)))]:=by have h:=makeH code ct body [] hb (by simp);rw[List.append_nil] at h;refine aH.conv h rfl fun j d' hd=>?_;match j with|0=>exact⟨d',hd,.inl rfl⟩;|1=>exact⟨d',hd,.inl rfl⟩;|2=>exact⟨d',hd,.inl rfl⟩;|3=>cases hd;exact⟨_,rfl,.inr ⟨_,_,rfl,rfl,fun _ _ _ h=>LU h⟩⟩
theorem rR (code:Int)(body:List UInt8)(hb:body.length≤4611686018427387904):aH (CG G) 129 [dI code,.d (.s body),.d (.sl 1 [])] [] [gj code body] [(16,some (.buf 2 ((sF eE body).map aL)))]:=by
 have h:=GX code eE body hb;unfold gj at*;refine mH 11 Tryz.func129 ?_;refine aT (ak [] h ?_ ?_);·exact aF
 apply aw [(16,_)];exact aF
theorem IN (m ct body:List UInt8)(hb:body.length≤4611686018427387904):aH (CG G) 211 [.d (.s m),.d (.s ct),.d (.s body)] [] [gj 200 (if m=cO then[] else body)] [(16,some (.buf 2 ((sF ct body).map aL)))]:=by
 have h:=GX 200 ct body hb;unfold gj at*;refine mH 15 Tryz.func211 ?_;refine aT (ak [] h ?_ ?_);·exact aF
 refine ad ?_;refine ae (fun h=>?_) (fun h=>?_)
 ·have h:m=cO:=h;rw[if_pos h];repeat'(first|refine ad ?_|refine dk ?_|refine ae (fun _=>?_) (fun _=>?_)|refine aq ?_)
  apply aw [(16,_)];exact aF
 ·have h:m≠cO:=h;rw[if_neg h];repeat'(first|refine ad ?_|refine dk ?_|refine ae (fun _=>?_) (fun _=>?_)|refine aq ?_)
  apply aw [(16,_)];exact aF
def kq (m p tx js:List UInt8):FZ:=let q:=(cz 63 p).1
 if q≠eH∧q≠j5 then⟨404,eE,yz,yz,qU 0⟩else if m≠m8∧m≠cO then⟨405,eE,xQ,xQ,qU 0⟩else if q=eH then⟨200,eE,tx,(if m=cO then[] else tx),qU 0⟩ else⟨200,om,js,(if m=cO then[] else js),qU 0⟩
theorem Jz (m p tx js:List UInt8)(mi:Int)(fl bo:List D)(fr:Bool)(cap ser:Int)(l:List dJ)(hp:p.length≤9223372036854775807)(htx:tx.length≤4611686018427387904)(hjs:js.length≤4611686018427387904)(h1:ay (CG G) 214 [lz cap ser l] [.s tx])(h2:ay (CG G) 215 [lz cap ser l] [.s js]):aH (CG G) 177 [.d (.agg [.s m,.s p,.i .i64 mi,.sl 2 fl,.b fr,.sl 1 bo]),.d (lz cap ser l)] [] [gj (kq m p tx js).code (kq m p tx js).body] [(16,some (.buf 2 ((sF (kq m p tx js).ct (kq m p tx js).text).map aL)))]:=by
 have t404:=rR 404 yz (by decide);have t405:=rR 405 xQ (by decide);have g1:=IN m om js hjs;have g2:=IN m eE tx htx;unfold kq;simp only;unfold gj at*;refine aH.mk (n:=41) Tryz.func177 rfl rfl rfl (Nat.le_of_ble_eq_true rfl) rfl (ah (AY p hp) ?_);generalize (cz 63 p).1=q at*;refine ad ?_;refine ae (fun a1=>?_) (fun a1=>?_)
 ·have a1:q≠eH:=a1;refine ae (fun a2=>?_) (fun a2=>?_)
  ·have a2:q≠j5:=a2;refine aT (ak [] t404 ?_ ?_);·exact aF
   rw[if_pos ⟨a1,a2⟩];repeat'(first|refine ad ?_|refine dk ?_|refine ae (fun _=>?_) (fun _=>?_)|refine aq ?_)
   apply aw [(16,_)];exact aF
  ·have a2:q=j5:=Nq.1 a2;subst a2;rw[if_neg (fun h=>h.2 rfl)];refine ad ?_;refine ae (fun b1=>?_) (fun b1=>?_)
   ·have b1:m≠m8:=b1;refine ae (fun b2=>?_) (fun b2=>?_)
    ·have b2:m≠cO:=b2;refine aT (ak [] t405 ?_ ?_);·exact aF
     rw[if_pos ⟨b1,b2⟩];repeat'(first|refine ad ?_|refine dk ?_|refine ae (fun _=>?_) (fun _=>?_)|refine aq ?_)
     apply aw [(16,_)];exact aF
    ·have b2:m=cO:=Nq.1 b2;refine ad (ai (by decide) (ah h2 ?_));refine aT (ak [] g1 ?_ ?_);·exact aF
     rw[if_neg (show¬(m≠m8∧m≠cO) from fun h=>h.2 b2),if_neg (show¬j5=eH by decide)];repeat'(first|refine ad ?_|refine dk ?_|refine ae (fun _=>?_) (fun _=>?_)|refine aq ?_)
     apply aw [(16,_)];exact aF
   ·have b1:m=m8:=Nq.1 b1;refine ad (ai (by decide) (ah h2 ?_));refine aT (ak [] g1 ?_ ?_);·exact aF
    rw[if_neg (show¬(m≠m8∧m≠cO) from fun h=>h.1 b1),if_neg (show¬j5=eH by decide)];repeat'(first|refine ad ?_|refine dk ?_|refine ae (fun _=>?_) (fun _=>?_)|refine aq ?_)
    apply aw [(16,_)];exact aF
 ·have a1:q=eH:=Nq.1 a1;subst a1;rw[if_neg (fun h=>h.1 rfl)];refine ad ?_;refine ae (fun b1=>?_) (fun b1=>?_)
  ·have b1:m≠m8:=b1;refine ae (fun b2=>?_) (fun b2=>?_)
   ·have b2:m≠cO:=b2;refine aT (ak [] t405 ?_ ?_);·exact aF
    rw[if_pos ⟨b1,b2⟩];repeat'(first|refine ad ?_|refine dk ?_|refine ae (fun _=>?_) (fun _=>?_)|refine aq ?_)
    apply aw [(16,_)];exact aF
   ·have b2:m=cO:=Nq.1 b2;refine ad (aj (by decide) (ah h1 ?_));refine aT (ak [] g2 ?_ ?_);·exact aF
    rw[if_neg (show¬(m≠m8∧m≠cO) from fun h=>h.2 b2),if_pos (show eH=eH from rfl)];repeat'(first|refine ad ?_|refine dk ?_|refine ae (fun _=>?_) (fun _=>?_)|refine aq ?_)
    apply aw [(16,_)];exact aF
  ·have b1:m=m8:=Nq.1 b1;refine ad (aj (by decide) (ah h1 ?_));refine aT (ak [] g2 ?_ ?_);·exact aF
   rw[if_neg (show¬(m≠m8∧m≠cO) from fun h=>h.1 b1),if_pos (show eH=eH from rfl)];repeat'(first|refine ad ?_|refine dk ?_|refine ae (fun _=>?_) (fun _=>?_)|refine aq ?_)
   apply aw [(16,_)];exact aF
theorem Lk (m pa:List UInt8)(mi:Int)(fl bo:List D)(fr:Bool)(x:Ro)(p:Pl)(hx:Io x p)(hy:∀c,Io (jV x c).1 p)(hp:pa.length≤9223372036854775807)(hl:p.ws.length≤9223372036854775806):aH (CG G) 176 [.d (.agg [.s m,.s pa,.i .i64 mi,.sl 2 fl,.b fr,.sl 1 bo]),.d (oW x),.d (sr p)] [] [gj (ik m (cz 63 pa).1 x p).code (ik m (cz 63 pa).1 x p).body,.d (oW (ik m (cz 63 pa).1 x p).ro)] [(16,some (.buf 2 ((sF (ik m (cz 63 pa).1 x p).ct (ik m (cz 63 pa).1 x p).text).map aL)))]:=by
 have c0:=AY pa hp;generalize (cz 63 pa).1=q at*;have c1:=CT q;have c2:=xn x p hx hl;have c3:=Lx x (fI q:Int);have c4:=xn (jV x (fI q:Int)).1 p (hy _) hl;have c5:=IN m om (eO x p) (by have:=jC x p hx;omega);have c6:=IN [] om (eO (jV x (fI q:Int)).1 p) (by have:=jC _ p (hy (fI q:Int));omega);rw[if_neg (show¬([]:List UInt8)=cO by decide)] at c6;have t409:=rR 409 Bo (by decide);have t405:=rR 405 xQ (by decide);have t404:=rR 404 yz (by decide);unfold ik;generalize eO x p=sx at*;generalize jV x (fI q:Int)=cc at*;obtain⟨y,er⟩:=cc;simp only at c3 c4 c6⊢;generalize eO y p=sy at*;generalize fI q=n at*;unfold oW sr gj at*;refine aH.mk (n:=75) Tryz.func176 rfl rfl rfl (Nat.le_of_ble_eq_true rfl) rfl (ah c0 (ah c1 (ad ?_)));refine ae (fun a1=>?_) (fun a1=>?_)
 ·have a1:q=uh:=a1;refine ae (fun b1=>?_) (fun b1=>?_)
  ·have b1:m=m8:=b1;refine ah c2 ?_;refine aT (ak [] c5 ?_ ?_);·exact aF
   refine dk ?_;rw[if_pos (show q=uh∧(m=m8∨m=cO) from⟨a1,.inl b1⟩)];apply aw [(16,_)];exact aF
  ·have b1:m≠m8:=b1;refine ae (fun b2=>?_) (fun b2=>?_)
   ·have b2:m=cO:=b2;refine ah c2 ?_;refine aT (ak [] c5 ?_ ?_);·exact aF
    refine dk ?_;rw[if_pos (show q=uh∧(m=m8∨m=cO) from⟨a1,.inr b2⟩)];apply aw [(16,_)];exact aF
   ·have b2:m≠cO:=b2;refine ae (fun b3=>?_) (fun b3=>?_)
    ·refine ae (fun b4=>?_) (fun b4=>?_)
     ·have b4:m=wX:=b4;refine ah c3 (ad ?_);refine ae (fun b5=>?_) (fun b5=>?_)
      ·refine aT (ak [] t409 ?_ ?_);·exact aF
       refine dk ?_;rw[if_neg (fun h=>h.2.elim b1 b2),if_pos ⟨by omega,b4⟩,if_pos b5];apply aw [(16,_)];exact aF
      ·refine ah c4 ?_;refine aT (ak [] c6 ?_ ?_);·exact aF
       refine dk ?_;rw[if_neg (fun h=>h.2.elim b1 b2),if_pos ⟨by omega,b4⟩,if_neg b5];apply aw [(16,_)];exact aF
     ·have b4:m≠wX:=b4;refine aj b3 ?_;refine aT (ak [] t405 ?_ ?_);·exact aF
      refine dk ?_;rw[if_neg (fun h=>h.2.elim b1 b2),if_neg (fun h=>b4 h.2),if_pos (.inl a1)];apply aw [(16,_)];exact aF
    ·refine ai b3 (aj a1 ?_);refine aT (ak [] t405 ?_ ?_);·exact aF
     refine dk ?_;rw[if_neg (fun h=>h.2.elim b1 b2),if_neg (fun h=>b3 (by omega)),if_pos (.inl a1)];apply aw [(16,_)];exact aF
 ·have a1:q≠uh:=a1;refine ae (fun b3=>?_) (fun b3=>?_)
  ·refine ae (fun b4=>?_) (fun b4=>?_)
   ·have b4:m=wX:=b4;refine ah c3 (ad ?_);refine ae (fun b5=>?_) (fun b5=>?_)
    ·refine aT (ak [] t409 ?_ ?_);·exact aF
     refine dk ?_;rw[if_neg (fun h=>a1 h.1),if_pos ⟨by omega,b4⟩,if_pos b5];apply aw [(16,_)];exact aF
    ·refine ah c4 ?_;refine aT (ak [] c6 ?_ ?_);·exact aF
     refine dk ?_;rw[if_neg (fun h=>a1 h.1),if_pos ⟨by omega,b4⟩,if_neg b5];apply aw [(16,_)];exact aF
   ·have b4:m≠wX:=b4;refine aj b3 ?_;refine aT (ak [] t405 ?_ ?_);·exact aF
    refine dk ?_;rw[if_neg (fun h=>a1 h.1),if_neg (fun h=>b4 h.2),if_pos (.inr (by omega))];apply aw [(16,_)];exact aF
  ·refine ai b3 (ai a1 ?_);refine aT (ak [] t404 ?_ ?_);·exact aF
   refine dk ?_;rw[if_neg (fun h=>a1 h.1),if_neg (fun h=>b3 (by omega)),if_neg (fun h=>h.elim a1 fun h=>b3 (by omega))];apply aw [(16,_)];exact aF
theorem woH (l:List bB)(ns:List (List UInt8))(hl:l.length≤68719476736)(hf:∀f,f∈l→f.1.length≤140737488355328)(hns:ns.length≤9223372036854775806)(hn:∀n,n∈ns→n.length≤140737488355328):aH (CG G) 190 [.d (.sl 2 (l.map aL)),.d (bP ns)] [] [.os 16] [(16,some (.buf 2 ((ga ns l).map aL)))]:=by
 have hlen:(l.map aL).length=l.length:=by simp
 refine aH.mk (n:=29) Tryz.func190 rfl rfl rfl (Nat.le_of_ble_eq_true rfl) rfl (ad ?_);apply aA (fun i:Nat=>i≤l.length) (fun i=>⟨[(0,.d (.sl 2 (l.map aL))),(1,.d (bP ns)),(5,.os 16),(6,dI (i:Int))],[(16,some (.buf 2 ((ga ns (l.take i)).map aL)))],2⟩) (fun i=>l.length-i) 0 (Nat.zero_le _) [(16,_)];·exact aF
 ·intro i hi;refine ad ?_;refine ae (fun h1=>?_) (fun h1=>?_)
  ·have hi':i<l.length:=by omega
   have hb:(ga ns (l.take i)).length≤i:=Nat.le_trans (m9 _ _) (by simp;omega);have hs:ga ns (l.take (i+1))=if iy ns l[i] then ga ns (l.take i) else ga ns (l.take i)++[l[i]]:=by rw[Nh hi',xK]
   have c2:=iN ns l[i] hns hn (hf _ (Nr hi'));refine ad (ao i rfl (gq hi') ?_);cases hb2:iy ns l[i] with|true=>rw[hb2] at c2 hs;rw[if_pos rfl] at hs;refine ah c2 (ar ⟨by omega,by omega⟩ ?_);apply aG (i+1) [(16,_)] (by omega) (by omega);((repeat' constructor)<;>(first|refine aI ?_|rfl)<;>first|exact oT|skip);all_goals rw[hs];|false=>rw[hb2] at c2 hs;rw[if_neg (by decide)] at hs;refine ah c2 (ao i rfl (gq hi') (aB (by simp;omega) (ar ⟨by omega,by omega⟩ ?_)));apply aG (i+1) [(16,_)] (by omega) (by omega);((repeat' constructor)<;>(first|refine aI ?_|rfl)<;>first|exact oT|skip);all_goals (rw[hs];simp[aL])
  ·obtain rfl:i=l.length:=by omega
   rw[Nt (Nat.le_refl _)];repeat'(first|refine ad ?_|refine dk ?_|refine ae (fun _=>?_) (fun _=>?_)|refine aq ?_)
   apply aw [(16,_)];exact aF
theorem listH (l:List (List UInt8))(hl:aX l≤4294967295):aH (CG G) 173 [.d (bP l)] [] [.os 16] [(16,some (.buf 1 ((cJ l).map .s)))]:=by
 have hlen:(l.map D.s).length=l.length:=by simp
 have hll:l.length≤4294967295:=by
  have:l.length≤aX l:=by unfold aX;clear hl hlen;induction l with|nil=>simp;|cons x r ih=>simp only[Nb,Nw,List.sum_cons];omega
  omega
 unfold bP;refine aH.mk (n:=37) Tryz.func173 rfl rfl rfl (Nat.le_of_ble_eq_true rfl) rfl (ad ?_);apply aA (fun i:Nat=>i≤l.length) (fun i=>⟨[(0,.d (.sl 1 (l.map .s))),(3,.os 16),(4,dI (i:Int))],[(16,some (.buf 1 ((cJ (l.take i)).map .s)))],2⟩) (fun i=>l.length-i) 0 (Nat.zero_le _) [(16,_)];·exact aF
 ·intro i hi;refine ad ?_;refine ae (fun h1=>?_) (fun h1=>?_)
  ·have hi':i<l.length:=by omega
   have hs:=nQ hi';have hb:=m0 (l.take i);have hsp:=rP l[i] 44 (by omega);have hpl:=fQ 44 l[i];have hcl:l[i].count 44≤l[i].length:=List.count_le_length;have hpm:∀x,x∈bm 44 l[i]→x.length≤9223372036854775807:=fun x hx=>by have:=dz hx;omega
   have hfin:cJ (l.take (i+1))=cJ (l.take i)++ea (bm 44 l[i]):=by rw[Nh hi',ur];rfl
   generalize bm 44 l[i]=ps at hsp hpl hpm hfin;unfold bP at hsp;have hplen:(ps.map D.s).length=ps.length:=by simp
   refine ad (ao i rfl (bt hi') (ah hsp ?_));apply aA (fun j:Nat=>j≤ps.length) (fun j=>⟨[(0,.d (.sl 1 (l.map .s))),(3,.os 16),(4,dI (i:Int)),(5,.d (.sl 1 (ps.map .s))),(6,dI (j:Int))],[(16,some (.buf 1 ((cJ (l.take i)++ea (ps.take j)).map .s)))],2⟩) (fun j=>ps.length-j) 0 (Nat.zero_le _) [(16,_)];·((repeat' constructor)<;>(first|refine aI ?_|rfl)<;>first|exact oT|skip);all_goals simp[ea]
   ·intro j hj;refine ad ?_;refine ae (fun k1=>?_) (fun k1=>?_)
    ·have hj':j<ps.length:=by omega
     have hk:=nP (ps.take j);have hk2:(ps.take j).length≤j:=by simp;omega
     have ht:=td ps[j] (hpm _ (Nr hj'));have hst:ea (ps.take (j+1))=if dA ps[j]=[] then ea (ps.take j) else ea (ps.take j)++[dA ps[j]]:=by rw[Nh hj',q7]
     refine ad (ao j rfl (bt hj') (ah ht ?_));refine ae (fun g=>?_) (fun g=>?_);·rw[if_neg g] at hst;refine aB (by simp;omega) (ar ⟨by omega,by omega⟩ ?_);apply aG (j+1) [(16,_)] (by omega) (by omega);((repeat' constructor)<;>(first|refine aI ?_|rfl)<;>first|exact oT|skip);all_goals (rw[hst];simp)
     ·rw[if_pos (Nq.1 g)] at hst;refine aq ?_;apply aG (j+1) [(16,_)] (by omega) (by omega);((repeat' constructor)<;>(first|refine aI ?_|rfl)<;>first|exact oT|skip);all_goals rw[hst]
    ·obtain rfl:j=ps.length:=by omega
     rw[Nt (Nat.le_refl _)];refine aq ?_;apply aG (i+1) [(16,_)] (by omega) (by omega);((repeat' constructor)<;>(first|refine aI ?_|rfl)<;>first|exact oT|skip);all_goals rw[hfin]
  ·obtain rfl:i=l.length:=by omega
   rw[Nt (Nat.le_refl _)];repeat'(first|refine ad ?_|refine dk ?_|refine ae (fun _=>?_) (fun _=>?_)|refine aq ?_)
   apply aw [(16,_)];exact aF
theorem elemH (l:List bB)(n:List UInt8)(h:br l≤1000000000)(hn:n.length≤1000000000):aH (CG G) 143 [.d (.sl 2 (l.map aL)),.d (.s n)] [] [.os 16] [(16,some (.buf 1 ((cJ (aM n l)).map .s)))]:=by
 have hz:=dE l;have hv:=cK (cv n) l;have c1:=oQ l n (by omega) (by omega) (fun f hf=>by have:=eu hf;omega);have c2:=listH (aM n l) (by unfold aM;omega);refine aH.mk (n:=9) Tryz.func143 rfl rfl rfl (Nat.le_of_ble_eq_true rfl) rfl (ah c1 ?_);refine aT (ak [] c2 ?_ ?_);·exact aF
 repeat'(first|refine ad ?_|refine dk ?_|refine ae (fun _=>?_) (fun _=>?_)|refine aq ?_)
 apply aw [(16,_)];exact aF
def yr:List UInt8:=[44,32]
def dB (l:List bB)(n m:List UInt8):List bB:=ga [n] l++[(n,bF (cJ (aM n l)++[m]) yr)]
theorem mF (a b:List (List UInt8)):aX (a++b)=aX a+aX b:=by simp[aX]
theorem ca (x:List UInt8)(r:List (List UInt8)):aX (x::r)=x.length+1+aX r:=by simp[aX]
theorem rK (c:UInt8):∀l,aX (bm c l)≤l.length+1
 |[]=>by simp[bm,aX];|x::r=>by
  have h:=rK c r;rw[bm];split;·rw[ca];simp only[Nf,Nb];omega
  ·split;·rename_i e;exact absurd e (tJ c r)
   ·rename_i a t e;rw[e,ca] at h;rw[ca];simp only[Nb];omega
theorem CM (ps:List (List UInt8)):aX (ea ps)≤aX ps:=by induction ps with|nil=>simp[ea];|cons x r ih=>
 have ht:=fM x;unfold ea at*;rw[Nw,List.filter_cons];split;·rw[ca,ca];omega
 ·rw[ca];omega
theorem rE (l:List (List UInt8)):aX (cJ l)≤aX l:=by induction l with|nil=>simp[cJ];|cons x r ih=>have h1:=CM (bm 44 x);have h2:=rK 44 x;unfold cJ elF at*;rw[List.flatMap_cons,mF,ca];omega
theorem b7 (a b:List bB):br (a++b)=br a+br b:=by simp[br]
theorem ez (f:bB):br [f]=f.1.length+f.2.length+1:=by simp[br]
theorem xM (l:List bB)(n:List UInt8):aX (cJ (aM n l))≤br l:=by have h1:=rE (aM n l);have h2:=cK (cv n) l;unfold aM at*;omega
theorem gL (l:List bB)(n m:List UInt8):br (dB l n m)≤3*br l+n.length+2*m.length+3:=by have h1:=xM l n;have h2:=li (cJ (aM n l)++[m]) yr (by decide);have h3:br (ga [n] l)≤br l:=dL _ _;rw[mF] at h2;unfold dB;rw[b7,ez];simp only[ca] at h2;have:aX []=0:=rfl;simp only;omega
theorem KU (l:List bB)(n m:List UInt8)(h:br l≤1000000000)(hn:n.length≤100000000)(hm:m.length≤100000000):aH (CG G) 238 [.d (.sl 2 (l.map aL)),.d (.s n),.d (.s m)] [] [.os 16] [(16,some (.buf 2 ((dB l n m).map aL)))]:=by
 have hz:=dE l;have c1:=elemH l n h (by omega);have c2:=woH l [n] (by omega) (fun f hf=>by have:=eu hf;omega) (by simp) (by intro x hx;simp at hx;subst hx;omega);have h1:=xM l n;have h2:=li (cJ (aM n l)++[m]) yr (by decide);have h3:=kI (cJ (aM n l));have h4:(ga [n] l).length≤l.length:=NC _ _;rw[mF] at h2;simp only[ca] at h2;have h0:aX []=0:=rfl;have c3:=uM (cJ (aM n l)++[m]) yr (by rw[Na];simp;omega) (by omega);unfold dB;generalize cJ (aM n l)=x at*;generalize ga [n] l=w at*;unfold bP at*;have hxl:(x.map D.s).length=x.length:=by simp
 have hwl:(w.map aL).length=w.length:=by simp
 rw[Ng] at c3;refine mH 24 Tryz.func238 ?_;refine aT (ak [] c1 ?_ ?_);·exact aF
 refine aB (by simp;omega) ?_;refine aT (ak [] c2 ?_ ?_);·exact aF
 refine ah c3 (aB (by simp;omega) ?_);repeat'(first|refine ad ?_|refine dk ?_|refine ae (fun _=>?_) (fun _=>?_)|refine aq ?_)
 apply aw [(16,_)];((repeat' constructor)<;>(first|refine aI ?_|rfl)<;>first|exact oT|skip);all_goals simp[aL]
def gN:List UInt8:=[86,105,97]
def gZ:List UInt8:=[49,46,49,32,99,97,110,97,114,121]
theorem viaR (l:List bB)(h:br l≤1000000000):aH (CG G) 217 [.d (.sl 2 (l.map aL))] [] [.os 16] [(16,some (.buf 2 ((dB l gN gZ).map aL)))]:=by
 have c1:=KU l gN gZ h (by decide) (by decide);refine mH 5 Tryz.func217 ?_;refine aT (ak [] c1 ?_ ?_);·exact aF
 repeat'(first|refine ad ?_|refine dk ?_|refine ae (fun _=>?_) (fun _=>?_)|refine aq ?_)
 apply aw [(16,_)];exact aF
theorem GG (l:List bB)(h:br l≤1000000000):ay (CG G) 191 [.sl 2 (l.map aL)] [.sl 2 ((bw l).map aL)]:=by have hz:=dE l;have hv:=cK (cv gQ) l;exact vZ l (by omega) (fun f hf=>by have:=eu hf;omega) (by unfold aM;omega) (fun e he=>by have:=nk he;unfold aM at*;omega)
theorem iK (l:List bB):br (bw l)≤br l:=dL _ _
def jX:List UInt8:=[88,45,70,111,114,119,97,114,100,101,100,45,70,111,114]
def qn:List UInt8:=[67,111,110,116,101,110,116,45,76,101,110,103,116,104]
def kr (fs:List bB)(fr:Bool)(n:Nat)(peer:List UInt8):List bB:=dB (dB (bw fs) jX peer) gN gZ++if fr then[(qn,aY 10 (n:Int))] else[]
theorem sY (fs:List bB)(fr:Bool)(n:Nat)(peer:List UInt8)(hn:n≤1000000000)(hp:peer.length≤20):br (kr fs fr n peer)≤9*br fs+350:=by
 have h0:=iK fs;have h1:=gL (bw fs) jX peer;have h2:=gL (dB (bw fs) jX peer) gN gZ;have e1:jX.length=15:=rfl;have e2:gN.length=3:=rfl;have e3:gZ.length=10:=rfl;have e4:qn.length=14:=rfl;have l1:=bv (n:=(n:Int)) (by omega);unfold kr;rw[b7];split;·rw[ez];simp only;omega
 ·have:br []=0:=rfl;omega
theorem En (r:eL)(peer:List UInt8)(h:br r.fs≤10000000)(hb:r.body.length≤100000000)(hp:peer.length≤20):aH (CG G) 229 [.d (gu r),.d (.s peer)] [] [.agg [.d (.s r.m),.d (.s r.t),dI 1,.os 16,.d (.b r.fr),.d (.sl 1 (aD r.body))]] [(16,some (.buf 2 ((kr r.fs r.fr r.body.length peer).map aL)))]:=by
 have h0:=iK r.fs;have h1:=gL (bw r.fs) jX peer;have h2:=gL (dB (bw r.fs) jX peer) gN gZ;have e1:jX.length=15:=rfl;have e2:gN.length=3:=rfl;have e3:gZ.length=10:=rfl;have c1:=GG r.fs (by omega);have c2:=KU (bw r.fs) jX peer (by omega) (by decide) (by omega);have c3:=viaR (dB (bw r.fs) jX peer) (by omega);have c4:=gw (r.body.length:Int) ⟨by omega,by omega⟩;have hl:=dE (dB (dB (bw r.fs) jX peer) gN gZ);have hbl:=aK r.body;rw[←hbl] at c4;unfold kr;generalize dB (dB (bw r.fs) jX peer) gN gZ=w at*;generalize dB (bw r.fs) jX peer=v at*;generalize bw r.fs=u at*;unfold gu dF at*;refine aH.mk (n:=26) Tryz.func229 rfl rfl rfl (Nat.le_of_ble_eq_true rfl) rfl (ah c1 ?_);refine aT (ak [] c2 ?_ ?_);·exact aF
 refine aT (ak [] c3 ?_ ?_);·exact aF
 refine ad ?_;refine gG (fun hf=>?_) (fun hf=>?_)
 ·rw[if_pos hf];refine ah c4 (aB (by simp;omega) ?_);repeat'(first|refine ad ?_|refine dk ?_|refine ae (fun _=>?_) (fun _=>?_)|refine aq ?_)
  apply aw [(16,_)];((repeat' constructor)<;>(first|refine aI ?_|rfl)<;>first|exact oT|skip);all_goals (rw[hbl];simp[aL,qn])
 ·rw[if_neg (by rw[hf];decide)];repeat'(first|refine ad ?_|refine dk ?_|refine ae (fun _=>?_) (fun _=>?_)|refine aq ?_)
  apply aw [(16,_)];exact aF
end Go.Proofs.YtgfdbddglhblbaaGreat
