/- A part of the proof of what is stated of the erasing of a mirror. -/
import Derived.Maps.RangeWalk
import Derived.Maps.AppendAt
import Derived.Lib.SlKeysI
import Derived.WalkKit
import Derived.Test.YtgfdbddglhblbaaGreatProg
import Derived.Test.YtgfdbddglhblbaaGreatQak
import Derived.Test.YtgfdbddglhblbaaGreatQaj
import Derived.Test.YtgfdbddglhblbaaGreatQav
import Derived.Test.YtgfdbddglhblbaaGreatQaq
set_option maxHeartbeats 64000000
namespace Go.Proofs.YtgfdbddglhblbaaGreat
open Go.Eng
attribute [local irreducible] aO
set_option maxRecDepth 100000
structure Po where
 ba:Int
 qu:Int
 se:Int
 id:List Int
 bu:List Int
def o8 (p:Po):D:=.agg [.i .i64 p.ba,.i .i64 p.qu,.i .i64 p.se,.sl 1 (p.id.map (.i .i64)),.sl 1 (p.bu.map (.i .i64))]
structure ib (p:Po):Prop where
 ba:0≤p.ba∧p.ba≤1000000000
 qu:0≤p.qu∧p.qu≤1000
 se:0≤p.se∧p.se≤900000
 le:((p.id.length+p.bu.length:Nat):Int)≤p.qu
 si:p.id.Pairwise (·<·)sb:p.bu.Pairwise (·<·)ri:∀x,x∈p.id→p.ba<x∧x≤p.ba+p.se
 rb:∀x,x∈p.bu→p.ba<x∧x≤p.ba+p.se
 ap:∀x,x∈p.id→x∉p.bu
theorem mP {l:List Int}(h:l.Pairwise (·<·)):l.Nodup:=h.imp fun h=>by omega
def iR:List Int→Int→List Int|[],n=>[n]|x::r,n=>if x<n then x::iR r n else n::x::r
theorem dG {l:List Int}{n x:Int}:x∈iR l n↔x=n∨x∈l:=by induction l with|nil=>simp[iR];|cons y r ih=>
 unfold iR;split;·simp[ih];constructor<;>rintro(h|h|h)<;>simp[h]
 ·simp
theorem qR (l:List Int)(n:Int):(iR l n).length=l.length+1:=by induction l with|nil=>rfl;|cons y r ih=>unfold iR;split<;>simp[ih]
theorem ka {l:List Int}{n:Int}(h:l.Pairwise (·<·))(hn:n∉l):(iR l n).Pairwise (·<·):=by induction l with|nil=>simp[iR];|cons y r ih=>
 have h1:=List.pairwise_cons.1 h;simp only[List.mem_cons,not_or] at hn;unfold iR;split
 ·rename_i hy;refine List.pairwise_cons.2 ⟨fun x hx=>?_,ih h1.2 hn.2⟩;rcases dG.1 hx with rfl|hx;·exact hy
  ·exact h1.1 x hx
 ·rename_i hy;refine List.pairwise_cons.2 ⟨fun x hx=>?_,h⟩;rcases List.mem_cons.1 hx with rfl|hx;·omega
  ·have:=h1.1 x hx;omega
theorem jy {l:List Int}(n:Int)(h:l.Pairwise (·<·)):(l.erase n).Pairwise (·<·):=h.sublist List.erase_sublist
theorem JJ {l:List Int}{n:Int}:∀(k:Nat),k≤l.length→(∀j,j<k→l.getD j 0<n)→(k=l.length∨¬l.getD k 0<n)→iR l n=l.take k++n::l.drop k:=by induction l with|nil=>intro k hk _ _;simp at hk;subst hk;rfl;|cons y r ih=>intro k hk h1 h2;cases k with
 |zero=>
 have:¬y<n:=by
  rcases h2 with h2|h2;·simp at h2
  ·simpa using h2
 unfold iR;rw[if_neg this];rfl;|succ k=>
 have hy:y<n:=by simpa using h1 0 (by omega)
 unfold iR;rw[if_pos hy,ih k (by simpa using hk) (fun j hj=>by simpa using h1 (j+1) (by omega)) (by
  rcases h2 with h2|h2;·left;simpa using h2
  ·right;simpa using h2)];rfl
theorem Fs {l:List Int}{n:Int}:∀(k:Nat),(∀j,j<k→l.getD j 0≠n)→l[k]?=some n→l.erase n=l.take k++l.drop (k+1):=by induction l with|nil=>intro k _ h;simp at h;|cons y r ih=>intro k h1 h2;cases k with|zero=>simp at h2;subst h2;simp;|succ k=>
 have hy:y≠n:=by simpa using h1 0 (by omega)
 rw[List.erase_cons_tail (by simpa using hy),ih k (fun j hj=>by simpa using h1 (j+1) (by omega)) (by simpa using h2)];rfl
theorem nJ {l:List Int}{n:Int}(h:n∈l):(l.erase n).length+1=l.length:=by have:=List.length_erase_of_mem h;have:0<l.length:=List.length_pos_of_mem h;omega
def oD (b q:Int):Po:=⟨min (max b 0) 1000000000,min (max q 0) 1000,0,[],[]⟩
theorem qx (b q:Int):ib (oD b q):=by refine⟨?_,?_,?_,?_,?_,?_,?_,?_,?_⟩<;>simp[oD]<;>omega
def fZ (p:Po):Option (Po×Int×Bool):=match p.id with|n::r=>some (⟨p.ba,p.qu,p.se,r,iR p.bu n⟩,n,false)|[]=>if(p.bu.length:Int)<p.qu∧p.se<900000 then some (⟨p.ba,p.qu,p.se+1,[],iR p.bu (p.ba+(p.se+1))⟩,p.ba+(p.se+1),true) else none
def kK (p:Po)(n:Int):Po×Bool:=if n∈p.bu then(⟨p.ba,p.qu,p.se,iR p.id n,p.bu.erase n⟩,true) else(p,false)
def eZ (p:Po)(n:Int):Po×Bool:=if n∈p.bu then(⟨p.ba,p.qu,p.se,p.id,p.bu.erase n⟩,true) else if n∈p.id then(⟨p.ba,p.qu,p.se,p.id.erase n,p.bu⟩,true) else(p,false)
theorem pg {p q:Po}{n:Int}{f:Bool}(h:ib p)(ha:fZ p=some (q,n,f)):ib q∧n∈q.bu∧n∉p.bu:=by
 obtain⟨h1,h2,h3,h4,h5,h6,h7,h8,h9⟩:=h;unfold fZ at ha;split at ha
 ·rename_i m r hid;cases ha;rw[hid] at h4 h5 h7 h9;have hm:=h9 n (by simp);have hc:=List.pairwise_cons.1 h5;refine⟨⟨h1,h2,h3,by simp only[qR];simp at h4;omega,hc.2,ka h6 hm,fun x hx=>h7 x (by simp[hx]),fun x hx=>?_,fun x hx hx2=>?_⟩,dG.2 (.inl rfl),hm⟩
  ·rcases dG.1 hx with rfl|hx;·exact h7 x (by simp)
   ·exact h8 x hx
  ·rcases dG.1 hx2 with rfl|hx2;·have:=hc.1 x hx;omega
   ·exact h9 x (by simp[hx]) hx2
 ·rename_i hid;split at ha
  ·rename_i hc;cases ha;have hm:p.ba+(p.se+1)∉p.bu:=fun hx=>by have:=h8 _ hx;omega
   refine⟨⟨h1,h2,⟨by simp only;omega,by simp only;omega⟩,by simp only[qR,Nf];omega,List.Pairwise.nil,ka h6 hm,fun x hx=>by simp at hx,fun x hx=>?_,fun x hx=>by simp at hx⟩,dG.2 (.inl rfl),hm⟩;rcases dG.1 hx with rfl|hx;·simp only;omega
   ·have:=h8 x hx;simp only;omega
  ·cases ha
theorem Bu {p:Po}(h:ib p)(n:Int):ib (kK p n).1:=by
 unfold kK;split
 ·rename_i hn;obtain⟨h1,h2,h3,h4,h5,h6,h7,h8,h9⟩:=h;have hni:n∉p.id:=fun hi=>h9 n hi hn;have hl:=nJ hn;refine⟨h1,h2,h3,by simp only[qR];omega,ka h5 hni,jy n h6,fun x hx=>?_,fun x hx=>h8 x (List.mem_of_mem_erase hx),fun x hx hx2=>?_⟩
  ·rcases dG.1 hx with rfl|hx;·exact h8 x hn
   ·exact h7 x hx
  ·rcases dG.1 hx with rfl|hx;·exact(mP h6).not_mem_erase hx2
   ·exact h9 x hx (List.mem_of_mem_erase hx2)
 ·exact h
theorem pC {p:Po}(h:ib p)(n:Int):ib (eZ p n).1:=by
 unfold eZ;split;·rename_i hn;obtain⟨h1,h2,h3,h4,h5,h6,h7,h8,h9⟩:=h;have hl:=nJ hn;exact⟨h1,h2,h3,by simp only;omega,h5,jy n h6,h7,fun x hx=>h8 x (List.mem_of_mem_erase hx),fun x hx hx2=>h9 x hx (List.mem_of_mem_erase hx2)⟩
 ·split;·rename_i hn;obtain⟨h1,h2,h3,h4,h5,h6,h7,h8,h9⟩:=h;have hl:=nJ hn;exact⟨h1,h2,h3,by simp only;omega,jy n h5,h6,fun x hx=>h7 x (List.mem_of_mem_erase hx),h8,fun x hx hx2=>h9 x (List.mem_of_mem_erase hx) hx2⟩
  ·exact h
theorem Hr (b q:Int):ay (CG G) 26 [.i .i64 b,.i .i64 q] [o8 (oD b q)]:=by refine mD 12 Tryz.func26 ?_;rfl
def As (r:Option (Po×Int×Bool)):List D:=match r with|some (q,n,f)=>[o8 q,.i .i64 n,.b f,.i .i64 0]|none=>[o8 ⟨0,0,0,[],[]⟩,.i .i64 0,.b false,.i .i64 9]
theorem lw (l:List Int)(k:Nat)(hk:k<l.length)(hl:l.length≤1000000):ay (CG G) 148 [ft l,.i .i64 (k:Int)] [ft (l.take k++l.drop (k+1))]:=by
 have hlen:(l.map (D.i .i64)).length=l.length:=by simp
 unfold ft;refine ay.mk (n:=15) Tryz.func148 rfl rfl rfl (Nat.le_of_ble_eq_true rfl) (bnd k rfl (by omega) (aB (by simp;omega) (ar ⟨by omega,by omega⟩ (bnd (k+1) (by omega) (by omega) (aB (by simp;omega) (dk (aN ?_)))))));simp[List.map_take,List.map_drop]
theorem qC (l:List Int)(n:Int)(hl:l.length≤1000000):ay (CG G) 219 [ft l,.i .i64 n] [ft (iR l n)]:=by
 have hlen:(l.map (D.i .i64)).length=l.length:=by simp
 have fin:∀k:Nat,k≤l.length→(∀j,j<k→l.getD j 0<n)→(k=l.length∨¬l.getD k 0<n)→(l.map (D.i .i64)).take k++[D.i .i64 n]++(l.map (D.i .i64)).drop k=(iR l n).map (D.i .i64):=by intro k h1 h2 h3;rw[JJ k h1 h2 h3];simp[List.map_take,List.map_drop]
 unfold ft;refine ay.mk (n:=32) Tryz.func219 rfl rfl rfl (Nat.le_of_ble_eq_true rfl) (ad ?_);apply aA (fun i:Nat=>i≤l.length∧∀j,j<i→l.getD j 0<n) (fun i=>⟨[(0,.d (.sl 1 (l.map (.i .i64)))),(1,dI n),(5,dI (i:Int))],[],2⟩) (fun i=>l.length-i) 0 ⟨Nat.zero_le _,fun j hj=>by omega⟩ [];·exact aF
 ·rintro i ⟨hi,hn⟩;refine ad ?_;refine ae (fun h1=>?_) (fun h1=>?_)
  ·have hi':i<l.length:=by omega
   refine ao i rfl (gC hi') ?_;refine ae (fun h2=>?_) (fun h2=>?_)
   ·refine aq ?_;apply aG (i+1) [] ⟨by omega,fun j hj=>by
     by_cases hji:j<i;·exact hn j hji
     ·obtain rfl:j=i:=by omega
      exact h2⟩ (by omega);exact aF
   ·refine bnd i rfl (by omega) (aB (by simp;omega) (aB (by simp;omega) (bnd i rfl (by omega) (aB (by simp;omega) (dk (aN ?_))))));rw[←fin i hi hn (.inr h2)];simp
  ·obtain rfl:i=l.length:=by omega
   refine bnd l.length rfl (by omega) (aB (by simp;omega) (aB (by simp;omega) (bnd l.length rfl (by omega) (aB (by simp;omega) (dk (aN ?_))))));rw[←fin l.length (Nat.le_refl _) hn (.inl rfl)];simp
theorem oA (l:List Int)(n:Int):∀j:Nat,j<l.length→l.getD j 0=n→l.idxOf n≤j:=by induction l with|nil=>intro j h;simp at h;|cons a l ih=>
 intro j hj h;rw[List.idxOf_cons];by_cases ha:a=n;·simp[ha]
 ·rw[show (a==n)=false by simpa using ha];cases j with|zero=>exact absurd (by simpa using h) ha;|succ j=>have:=ih j (by simpa using hj) (by simpa using h);simp only[cond_false];omega
theorem uY (l:List Int)(n:Int)(hl:l.length≤1000000):(n∉l∧ay (CG G) 147 [ft l,.i .i64 n] [.i .i64 (-1)])∨(∃k:Nat,k<l.length∧n∈l∧l.erase n=l.take k++l.drop (k+1)∧ay (CG G) 147 [ft l,.i .i64 n] [.i .i64 (k:Int)]):=by
 have hlen:(l.map (D.i .i64)).length=l.length:=by simp
 have key:∃i:Int,∀k:Nat,(k=l.length→(∀j,j<k→l.getD j 0≠n)→i=-1)∧(l[k]?=some n→(∀j,j<k→l.getD j 0≠n)→i=k):=by
  by_cases hm:n∈l
  ·refine⟨(l.idxOf n:Nat),fun k=>⟨fun h h2=>?_,fun h1 h2=>?_⟩⟩;·obtain⟨j,hj,he⟩:=List.getElem_of_mem hm;exact absurd (by simpa[hj] using he) (h2 j (by omega))
   ·have hk:k<l.length:=(Nc.1 h1).1;have hnt:n∉l.take k:=by
     intro hx;obtain⟨j,hj,he⟩:=List.getElem_of_mem hx;have hj2:j<k:=by simp at hj;omega
     exact h2 j hj2 (by simpa[show j<l.length by omega] using he)
    have h3:l=l.take k++l.drop k:=(NB k l).symm;have h4:l.drop k=n::l.drop (k+1):=by rw[Ny hk];rw[No hk] at h1;cases h1;rfl
    have:l.idxOf n=k:=by rw[h3,List.idxOf_append,if_neg hnt,h4,List.idxOf_cons_self];simp;omega
    rw[this]
  ·exact⟨-1,fun k=>⟨fun _ _=>rfl,fun h1 _=>absurd (Ni h1) hm⟩⟩
 obtain⟨r,hk⟩:=key;have hdo:ay (CG G) 147 [ft l,.i .i64 n] [.i .i64 r]:=by
  unfold ft;refine ay.mk (n:=19) Tryz.func147 rfl rfl rfl (Nat.le_of_ble_eq_true rfl) (ad ?_);apply aA (fun i:Nat=>i≤l.length∧∀j,j<i→l.getD j 0≠n) (fun i=>⟨[(0,.d (.sl 1 (l.map (.i .i64)))),(1,dI n),(5,dI (i:Int))],[],2⟩) (fun i=>l.length-i) 0 ⟨Nat.zero_le _,fun j hj=>by omega⟩ [];·exact aF
  ·rintro i ⟨hi,hn⟩;refine ad ?_;refine ae (fun h1=>?_) (fun h1=>?_)
   ·have hi':i<l.length:=by omega
    refine ad (ao i rfl (gC hi') ?_);refine ae (fun h2=>?_) (fun h2=>?_);·have h2:l.getD i 0=n:=h2;refine aN ?_;rw[(hk i).2 (by rw[←h2];simp[hi']) hn]
    ·refine aq ?_;apply aG (i+1) [] ⟨by omega,fun j hj=>by
      by_cases hji:j<i;·exact hn j hji
      ·obtain rfl:j=i:=by omega
       exact h2⟩ (by omega);exact aF
   ·obtain rfl:i=l.length:=by omega
    refine aN ?_;rw[(hk l.length).1 rfl hn]
 by_cases hm:n∈l
 ·right;refine⟨l.idxOf n,List.idxOf_lt_length_of_mem hm,hm,?_,?_⟩;·refine Fs _ (fun j hj he=>?_) (by rw[No (List.idxOf_lt_length_of_mem hm)];simp);have hjl:j<l.length:=Nat.lt_trans hj (List.idxOf_lt_length_of_mem hm);have:=oA l n j hjl he;omega
  ·have:=(hk (l.idxOf n)).2 (by rw[No (List.idxOf_lt_length_of_mem hm)];simp) (fun j hj he=>?_);·rw[←this];exact hdo
   ·have hjl:j<l.length:=Nat.lt_trans hj (List.idxOf_lt_length_of_mem hm);have:=oA l n j hjl he;omega
 ·left;have:=(hk l.length).1 rfl (fun j hj he=>hm (by rw[←he];simp[hj]));rw[this] at hdo;exact⟨hm,hdo⟩
theorem tY (p:Po)(h:ib p):ay (CG G) 203 [o8 p] (As (fZ p)):=by obtain⟨h1,h2,h3,h4,h5,h6,h7,h8,h9⟩:=h;obtain⟨ba,qu,se,id,bu⟩:=p;simp only at*;cases id with|cons n r=>
 have hl:(List.map (D.i .i64) (n::r)).length=r.length+1:=by simp
 have c1:=lw (n::r) 0 (by simp) (by simp at h4⊢;omega);have c2:=qC bu n (by omega);unfold fZ As;simp only;unfold o8 at*;simp only at*;unfold ft at*;refine ay.mk (n:=57) Tryz.func203 rfl rfl rfl (Nat.le_of_ble_eq_true rfl) (ad (aj (by omega) (ao 0 rfl (x:=.i .i64 n) rfl (ah c1 (ah c2 (dk ?_))))));rfl;|nil=>
 unfold fZ As;simp only;by_cases hc:(bu.length:Int)<qu∧se<900000
 ·rw[if_pos hc];have hl:(List.map (D.i .i64) bu).length=bu.length:=by simp
  have c2:=qC bu (ba+(se+1)) (by omega);unfold o8 at*;simp only at*;unfold ft at*;refine ay.mk (n:=57) Tryz.func203 rfl rfl rfl (Nat.le_of_ble_eq_true rfl) (ad (ai (by simp) (ad (ai (by omega) (ai (by omega) (ar ⟨by omega,by omega⟩ (ar ⟨by omega,by omega⟩ (ah c2 (ar ⟨by omega,by omega⟩ (dk ?_))))))))));rfl
 ·rw[if_neg hc];have hl:(List.map (D.i .i64) bu).length=bu.length:=by simp
  unfold o8 at*;simp only at*;refine ay.mk (n:=57) Tryz.func203 rfl rfl rfl (Nat.le_of_ble_eq_true rfl) (ad (ai (by simp) (ad ?_)));refine ae (fun g1=>?_) (fun g1=>?_);·rfl
  ·refine aj (by omega) ?_;rfl
theorem uA (p:Po)(n:Int)(h:ib p):ay (CG G) 180 [o8 p,.i .i64 n] [o8 (kK p n).1,.b (kK p n).2]:=by
 obtain⟨h1,h2,h3,h4,h5,h6,h7,h8,h9⟩:=h;have c0:=uY p.bu n (by omega);have c2:=qC p.id n (by omega);obtain⟨ba,qu,se,id,bu⟩:=p;simp only at*;rcases c0 with⟨hn,c0⟩|⟨k,hk,hn,he,c0⟩;·rw[show kK ⟨ba,qu,se,id,bu⟩ n=(⟨ba,qu,se,id,bu⟩,false) from if_neg hn];unfold o8 at*;simp only at*;unfold ft at*;refine ay.mk (n:=25) Tryz.func180 rfl rfl rfl (Nat.le_of_ble_eq_true rfl) (ah c0 (ad (aj (by omega) ?_)));rfl
 ·rw[show kK ⟨ba,qu,se,id,bu⟩ n=(⟨ba,qu,se,iR id n,bu.erase n⟩,true) from if_pos hn,he];have c1:=lw bu k hk (by omega);unfold o8 at*;simp only at*;unfold ft at*;refine ay.mk (n:=25) Tryz.func180 rfl rfl rfl (Nat.le_of_ble_eq_true rfl) (ah c0 (ad (ai (by omega) (ah c1 (ah c2 (dk ?_))))));rfl
theorem zj (p:Po)(n:Int)(h:ib p):ay (CG G) 112 [o8 p,.i .i64 n] [o8 (eZ p n).1,.b (eZ p n).2]:=by
 obtain⟨h1,h2,h3,h4,h5,h6,h7,h8,h9⟩:=h;have c0:=uY p.bu n (by omega);have c3:=uY p.id n (by omega);obtain⟨ba,qu,se,id,bu⟩:=p;simp only at*;rcases c0 with⟨hn,c0⟩|⟨k,hk,hn,he,c0⟩
 ·rcases c3 with⟨hm,c3⟩|⟨k,hk,hm,he,c3⟩;·rw[show eZ ⟨ba,qu,se,id,bu⟩ n=(⟨ba,qu,se,id,bu⟩,false) by unfold eZ;rw[if_neg hn,if_neg hm]];unfold o8 at*;simp only at*;unfold ft at*;refine ay.mk (n:=32) Tryz.func112 rfl rfl rfl (Nat.le_of_ble_eq_true rfl) (ah c0 (ad (ai (by omega) (ah c3 (ad (ai (by omega) ?_))))));rfl
  ·rw[show eZ ⟨ba,qu,se,id,bu⟩ n=(⟨ba,qu,se,id.erase n,bu⟩,true) by unfold eZ;rw[if_neg hn,if_pos hm],he];have c1:=lw id k hk (by omega);unfold o8 at*;simp only at*;unfold ft at*;refine ay.mk (n:=32) Tryz.func112 rfl rfl rfl (Nat.le_of_ble_eq_true rfl) (ah c0 (ad (ai (by omega) (ah c3 (ad (aj (by omega) (ah c1 ?_)))))));rfl
 ·rw[show eZ ⟨ba,qu,se,id,bu⟩ n=(⟨ba,qu,se,id,bu.erase n⟩,true) from if_pos hn,he];have c1:=lw bu k hk (by omega);unfold o8 at*;simp only at*;unfold ft at*;refine ay.mk (n:=32) Tryz.func112 rfl rfl rfl (Nat.le_of_ble_eq_true rfl) (ah c0 (ad (aj (by omega) (ah c1 ?_))));rfl
structure vW where
 s:St
 n:Int
 t:List UInt8
structure cX where
 exc:Int
 conn:Int
 born:Int
 opn:Bool
 po:cH
 rd:dm
 dg:vW
 hs:Bool
 hp:Bool
 sh:Sn
 pr:Sn
def kj (j:cX):List D:=[.i .i64 j.exc,.i .i64 j.conn,.i .i64 j.born,.b j.opn,.i .i64 j.po.id,.i .i64 j.po.cls,.i .i64 j.po.inn.cap,.sl 1 (aD j.po.inn.dat),.i .i64 j.po.out.cap,.sl 1 (aD j.po.out.dat),.i .i64 j.po.bud,.b j.po.ended,.b j.po.closing,.b j.rd.rep,.s j.rd.meth,.i .i64 j.rd.ph,.s j.rd.rq.m,.s j.rd.rq.t,.i .i64 j.rd.rq.mi,.sl 2 (j.rd.rq.fs.map aL),.b j.rd.rq.fr,.sl 1 (aD j.rd.rq.body),.i .i64 j.rd.an.st,.s j.rd.an.rs,.i .i64 j.rd.an.mi,.sl 2 (j.rd.an.fs.map aL),.sl 1 (aD j.rd.an.body),.i .i64 j.rd.fm.kd,.i .i64 j.rd.fm.len,.i .i64 j.rd.lf,.i .i64 j.rd.sz,.i .i64 j.rd.ck.ph,.i .i64 j.rd.ck.lf,.i .i64 j.rd.ck.tr,.sl 1 (aD j.rd.ck.ln),.i .u32 j.dg.s.x0,.i .u32 j.dg.s.x1,.i .u32 j.dg.s.x2,.i .u32 j.dg.s.x3,.i .u32 j.dg.s.x4,.i .u32 j.dg.s.x5,.i .u32 j.dg.s.x6,.i .u32 j.dg.s.x7,.i .i64 j.dg.n,.sl 1 (aD j.dg.t),.b j.hs,.b j.hp,.i .i64 j.sh.st,.sl 2 (j.sh.fs.map aL),.i .i64 j.sh.sz,.sl 1 (aD j.sh.sum),.i .i64 j.pr.st,.sl 2 (j.pr.fs.map aL),.i .i64 j.pr.sz,.sl 1 (aD j.pr.sum)]
def bI (j:cX):D:=.agg (kj j)
structure D7 where
 cap:Int
 ser:Int
 l:List dJ
structure bz where
 pool:Po
 jobs:List cX
 rep:D7
def aZ (s:bz):List D:=[.i .i64 s.pool.ba,.i .i64 s.pool.qu,.i .i64 s.pool.se,.sl 1 (s.pool.id.map (.i .i64)),.sl 1 (s.pool.bu.map (.i .i64)),.sl 55 (s.jobs.map bI),.i .i64 s.rep.cap,.i .i64 s.rep.ser,.sl 6 (s.rep.l.map NH)]
def bJ (s:bz):D:=.agg (aZ s)
structure bC where
 kind:Int
 conn:Int
 cls:Int
 n:Int
 b:List UInt8
def bn (a:bC):D:=.agg [.i .i64 a.kind,.i .i64 a.conn,.i .i64 a.cls,.i .i64 a.n,.sl 1 (aD a.b)]
def bS (l:List bC):D:=.sl 5 (l.map bn)
def zJ (c:bk):bz:=⟨oD 3000000 c.shadow,[],⟨mS c.reports,0,[]⟩⟩
theorem AC (c:bk):ay (CG G) 27 [di c] [bJ (zJ c)]:=by
 have c1:=Hr 3000000 c.shadow;have c2:=new65 c.reports;unfold di bi bJ aZ o8 lz o6 at*;refine mD 10 Tryz.func27 ?_;repeat'(first|refine ad ?_|refine dk ?_|refine ah (c1) ?_|refine ah (c2) ?_|refine ae (fun _=>?_) (fun _=>?_)|refine aq ?_)
 refine aN ?_;rfl
theorem j7 {l:List cX}{i:Nat}(h:i<l.length):(l.map bI)[i]?=some (bI l[i]):=by simp[h]
def fL (l:List cX):Nat:=(l.map fun j=>j.po.out.dat.length).sum
theorem wK {l:List cX}{i:Nat}(h:i<l.length):fL (l.take (i+1))=fL (l.take i)+l[i].po.out.dat.length:=by unfold fL;rw[tp h,Ng,List.sum_append];simp
theorem Du (l:List cX)(i:Nat):fL (l.take i)≤fL l:=by unfold fL;induction l generalizing i with|nil=>simp;|cons x r ih=>cases i with|zero=>simp;|succ i=>have:=ih i;simp only[List.take_succ_cons,Nw,List.sum_cons];omega
theorem Eo (s:bz)(h:fL s.jobs≤1000000000000000)(hl:s.jobs.length≤1000000):ay (CG G) 230 [bJ s] [.i .i64 (fL s.jobs:Int)]:=by
 have hjl:(s.jobs.map bI).length=s.jobs.length:=by simp
 unfold bJ aZ;refine ay.mk (n:=24) Tryz.func230 rfl rfl rfl (Nat.le_of_ble_eq_true rfl) (ad ?_);apply aA (fun i:Nat=>i≤s.jobs.length) (fun i=>⟨[(1,.op 16 0 0),(3,dI (fL (s.jobs.take i):Int)),(4,dI (i:Int))],[(16,some (.box [dI s.pool.ba,dI s.pool.qu,dI s.pool.se,.d (.sl 1 (s.pool.id.map (.i .i64))),.d (.sl 1 (s.pool.bu.map (.i .i64))),.d (.sl 55 (s.jobs.map bI)),dI s.rep.cap,dI s.rep.ser,.d (.sl 6 (s.rep.l.map NH))]))],2⟩) (fun i=>s.jobs.length-i) 0 (Nat.zero_le _) [(16,_)];·exact aF
 ·intro i hi;refine ad ?_;refine ae (fun h1=>?_) (fun h1=>?_)
  ·have hi':i<s.jobs.length:=by omega
   have h2:=wK hi';have h3:=Du s.jobs (i+1);refine ad (ao i rfl (j7 hi') ?_);refine ar ⟨by simp[aK];omega,by simp[aK];omega⟩ ?_;refine aq ?_;apply aG (i+1) [(16,_)] (by omega) (by omega);((repeat' constructor)<;>(first|refine aI ?_|rfl)<;>first|exact oT|skip);all_goals (rw[h2];simp[aK])
  ·obtain rfl:i=s.jobs.length:=by omega
   repeat'(first|refine ad ?_|refine dk ?_|refine ae (fun _=>?_) (fun _=>?_)|refine aq ?_)
   refine aN ?_;rw[ND]
def jt (l:List cX)(id:Int):Option Nat:=if id=0 then none else l.findIdx? fun j=>decide (j.conn=id)
def EL:Option Nat→Int|some k=>k|none=>-1
theorem bj (k:Nat):EL (some k)=(k:Int):=rfl
theorem da:EL none=-1:=rfl
theorem CR (s:bz)(id:Int)(hl:s.jobs.length≤1000000):ay (CG G) 114 [bJ s,.i .i64 id] [.i .i64 (EL (jt s.jobs id))]:=by
 have hjl:(s.jobs.map bI).length=s.jobs.length:=by simp
 unfold bJ aZ;refine ay.mk (n:=26) Tryz.func114 rfl rfl rfl (Nat.le_of_ble_eq_true rfl) (ad ?_);apply aA (fun i:Nat=>i≤s.jobs.length∧(id=0∨∀(j:Nat)(h:j<s.jobs.length),j<i→s.jobs[j].conn≠id)) (fun i=>⟨[(1,dI id),(2,.op 16 0 0),(5,dI (i:Int))],[(16,some (.box [dI s.pool.ba,dI s.pool.qu,dI s.pool.se,.d (.sl 1 (s.pool.id.map (.i .i64))),.d (.sl 1 (s.pool.bu.map (.i .i64))),.d (.sl 55 (s.jobs.map bI)),dI s.rep.cap,dI s.rep.ser,.d (.sl 6 (s.rep.l.map NH))]))],2⟩) (fun i=>s.jobs.length-i) 0 ⟨Nat.zero_le _,.inr fun j _ h=>by omega⟩ [(16,_)];·exact aF
 ·rintro i ⟨hi,hn⟩;refine ad ?_;refine ae (fun h1=>?_) (fun h1=>?_)
  ·have hi':i<s.jobs.length:=by omega
   refine ad (ao i rfl (j7 hi') ?_);refine ae (fun h2=>?_) (fun h2=>?_)
   ·refine ae (fun h3=>?_) (fun h3=>?_)
    ·repeat'(first|refine ad ?_|refine dk ?_|refine ae (fun _=>?_) (fun _=>?_)|refine aq ?_)
     refine aN ?_;have e:jt s.jobs id=some i:=by unfold jt;rw[if_neg h3,List.findIdx?_eq_some_iff_getElem];refine⟨hi',by simpa using h2,fun j hj=>?_⟩;have:=(hn.resolve_left h3) j (by omega) hj;simpa using this
     rw[e];rfl
    ·repeat'(first|refine ad ?_|refine dk ?_|refine ae (fun _=>?_) (fun _=>?_)|refine aq ?_)
     apply aG (i+1) [(16,_)] ⟨by omega,.inl (Nq.1 h3)⟩ (by omega);exact aF
   ·repeat'(first|refine ad ?_|refine dk ?_|refine ae (fun _=>?_) (fun _=>?_)|refine aq ?_)
    apply aG (i+1) [(16,_)] ⟨by omega,hn.imp_right fun hn j h hj=>by
     by_cases hji:j<i;·exact hn j h hji
     ·obtain rfl:j=i:=by omega
      exact h2⟩ (by omega);exact aF
  ·have e:jt s.jobs id=none:=by
    unfold jt;split;·rfl
    ·rename_i h3;rw[List.findIdx?_eq_none_iff];intro x hx;obtain⟨j,hj,rfl⟩:=List.getElem_of_mem hx;have:=(hn.resolve_left h3) j hj (by omega);simpa using this
   repeat'(first|refine ad ?_|refine dk ?_|refine ae (fun _=>?_) (fun _=>?_)|refine aq ?_)
   refine aN ?_;rw[e];rfl
def bz.set (s:bz)(k:Nat)(j:cX):bz:={s with jobs:=s.jobs.set k j}
theorem zK (s:bz)(k:Nat)(j:cX)(hk:k<s.jobs.length)(hl:s.jobs.length≤1000000):ay (CG G) 115 [bJ s,.i .i64 (k:Int),bI j] [bJ (s.set k j)]:=by
 have hjl:(s.jobs.map bI).length=s.jobs.length:=by simp
 unfold bJ aZ bz.set;refine ay.mk (n:=18) Tryz.func115 rfl rfl rfl (Nat.le_of_ble_eq_true rfl) (aB (by simp;omega) (bh k rfl (by simp;omega) (ax (x:=bI s.jobs[k]) (by simp[hk]) ?_)));repeat'(first|refine ad ?_|refine dk ?_|refine ae (fun _=>?_) (fun _=>?_)|refine aq ?_)
 refine aN ?_;rw[List.map_set];rfl
structure D7.Ok (r:D7):Prop where
 cap:0≤r.cap∧r.cap≤10000
 ser:0≤r.ser∧r.ser≤1000000000
 len:(r.l.length:Int)≤r.cap
structure bz.Sm (s:bz):Prop where
 pool:ib s.pool
 jobs:s.jobs.length≤1000000
 rep:s.rep.Ok
def D7.add (r:D7)(exc rea:Int)(a b:Bool)(f:List Nm):D7:=⟨r.cap,qA r.ser,xB r.cap (r.l++[⟨qA r.ser,exc,rea,a,b,f⟩])⟩
theorem Mh (r:D7)(exc rea:Int)(a b:Bool)(f:List Nm)(h:r.Ok):ay (CG G) 164 [lz r.cap r.ser r.l,.i .i64 exc,.i .i64 rea,pe a b f] [lz (r.add exc rea a b f).cap (r.add exc rea a b f).ser (r.add exc rea a b f).l]:=by have h1:=h.cap;have h2:=h.ser;have h3:=h.len;exact add43 r.cap r.ser exc rea a b f r.l (by omega) ⟨by omega,by omega⟩ ⟨by omega,by omega⟩
def cX.off (j:cX):cX:={j with conn:=0,opn:=false,po:=.zero,rd:=.zero}
def bz.hang (s:bz)(k:Nat)(j:cX):bz:=if j.conn=0 then s else{s with pool:=(eZ s.pool j.conn).1,jobs:=s.jobs.set k j.off}
def dS (j:cX)(gone:Bool):List bC:=if j.conn=0∨gone=true then[] else[⟨4,j.conn,0,0,[]⟩]
theorem KC (s:bz)(k:Nat)(gone:Bool)(hs:s.Sm)(j:cX)(hk:s.jobs[k]?=some j):ay (CG G) 133 [bJ s,.i .i64 (k:Int),.b gone] [bJ (s.hang k j),bS (dS j gone)]:=by
 have hlt:k<s.jobs.length:=(Nc.1 hk).1;have hjl:=hs.jobs;have hml:(s.jobs.map bI).length=s.jobs.length:=by simp
 have hg:(s.jobs.map bI)[k]?=some (bI j):=by simp[hk]
 have c1:=zj s.pool j.conn hs.pool;have c2:=zK {s with pool:=(eZ s.pool j.conn).1} k j.off hlt (by show s.jobs.length≤_;omega);unfold bz.hang dS bS;unfold bz.set at c2;generalize (eZ s.pool j.conn).2=dr at*;generalize (eZ s.pool j.conn).1=po at*;unfold bJ aZ o8 at*;refine ay.mk (n:=48) Tryz.func133 rfl rfl rfl (Nat.le_of_ble_eq_true rfl) (ao k rfl hg (ad ?_));refine ae (fun g1=>?_) (fun g1=>?_)
 ·have g1:j.conn=0:=g1;rw[if_pos g1,if_pos (.inl g1)];repeat'(first|refine ad ?_|refine dk ?_|refine ae (fun _=>?_) (fun _=>?_)|refine aq ?_)
  rfl
 ·have g1:j.conn≠0:=g1;rw[if_neg g1];refine ah c1 (ao k rfl hg (ah c2 (ad ?_)));cases gone
  ·rw[if_neg (by rintro(h|h);exact g1 h;cases h)];repeat'(first|refine ad ?_|refine dk ?_|refine ae (fun _=>?_) (fun _=>?_)|refine aq ?_)
   rfl
  ·rw[if_pos (.inr rfl)];repeat'(first|refine ad ?_|refine dk ?_|refine ae (fun _=>?_) (fun _=>?_)|refine aq ?_)
   rfl
def bz.fin (s:bz)(k:Nat)(exc rea:Int)(a b:Bool)(f:List Nm):bz:={s with rep:=s.rep.add exc rea a b f,jobs:=s.jobs.take k++s.jobs.drop (k+1)}
theorem finR (s:bz)(k:Nat)(rea:Int)(a b:Bool)(f:List Nm)(hs:s.Sm)(j:cX)(hk:s.jobs[k]?=some j):ay (CG G) 134 [bJ s,.i .i64 (k:Int),.i .i64 rea,pe a b f] [bJ (s.fin k j.exc rea a b f)]:=by
 have hlt:k<s.jobs.length:=(Nc.1 hk).1;have hjl:=hs.jobs;have hml:(s.jobs.map bI).length=s.jobs.length:=by simp
 have hg:(s.jobs.map bI)[k]?=some (bI j):=by simp[hk]
 have c1:=Mh s.rep j.exc rea a b f hs.rep;unfold bz.fin;generalize s.rep.add j.exc rea a b f=rp at*;unfold bJ aZ lz o6 pe at*;refine ay.mk (n:=35) Tryz.func134 rfl rfl rfl (Nat.le_of_ble_eq_true rfl) (ao k rfl hg (ah c1 ?_));repeat'(first|refine ad ?_|refine dk ?_|refine ae (fun _=>?_) (fun _=>?_)|refine aq ?_)
 refine bnd k rfl (by omega) (aB (by simp;omega) (ar ⟨by omega,by omega⟩ (bnd (k+1) (by omega) (by omega) (aB (by simp;omega) ?_))));repeat'(first|refine ad ?_|refine dk ?_|refine ae (fun _=>?_) (fun _=>?_)|refine aq ?_)
 refine aN ?_;simp only[Ng,List.map_take,List.map_drop];rfl
def bz.endJ (s:bz)(k:Nat)(j:cX)(rea:Int):bz:=(s.hang k j).fin k j.exc rea false false []
theorem bz.hang_sm {s:bz}(hs:s.Sm)(k:Nat)(j:cX):(s.hang k j).Sm:=by
 unfold bz.hang;split;·exact hs
 ·exact⟨pC hs.pool _,by simp;exact hs.jobs,hs.rep⟩
theorem bz.hang_get {s:bz}{k:Nat}{j:cX}(hk:s.jobs[k]?=some j):∃i,(s.hang k j).jobs[k]?=some i∧i.exc=j.exc∧i.conn=0:=by
 have hlt:k<s.jobs.length:=(Nc.1 hk).1;unfold bz.hang;split;·rename_i h;exact⟨j,hk,rfl,h⟩
 ·exact⟨j.off,by simp[hlt],rfl,rfl⟩
theorem s7 (s:bz)(k:Nat)(rea:Int)(gone:Bool)(hs:s.Sm)(j:cX)(hk:s.jobs[k]?=some j):ay (CG G) 104 [bJ s,.i .i64 (k:Int),.i .i64 rea,.b gone] [bJ (s.endJ k j rea),bS (dS j gone)]:=by
 have c1:=KC s k gone hs j hk;obtain⟨i,h1,h2,_⟩:=bz.hang_get hk;have c2:=finR (s.hang k j) k rea false false [] (bz.hang_sm hs k j) i h1;rw[h2] at c2;unfold bz.endJ bS at*;generalize (s.hang k j).fin k j.exc rea false false []=t at*;generalize s.hang k j=u at*;unfold bJ aZ pe bP at*;refine mD 24 Tryz.func104 ?_;repeat'(first|refine ad ?_|refine dk ?_|refine ah (c1) ?_|refine ah (c2) ?_|refine ae (fun _=>?_) (fun _=>?_)|refine aq ?_)
 rfl
noncomputable def bz.cmp (s:bz)(k:Nat)(j:cX):bz:=if j.hp=true∧j.hs=true then s.fin k j.exc 1 (decide (j.pr.st≠j.sh.st)) (yn j.pr j.sh) (qQ j.pr.fs j.sh.fs) else s
theorem cmpR (s:bz)(k:Nat)(hs:s.Sm)(j:cX)(hk:s.jobs[k]?=some j)(h1:j.pr.fs.length≤400000)(h2:j.sh.fs.length≤400000):ay (CG G) 156 [bJ s,.i .i64 (k:Int)] [bJ (s.cmp k j)]:=by
 have hlt:k<s.jobs.length:=(Nc.1 hk).1;have hjl:=hs.jobs;have hml:(s.jobs.map bI).length=s.jobs.length:=by simp
 have hg:(s.jobs.map bI)[k]?=some (bI j):=by simp[hk]
 have c1:=Di j.pr j.sh h1 h2;unfold MQ at c1;have c2:=finR s k 1 (decide (j.pr.st≠j.sh.st)) (yn j.pr j.sh) (qQ j.pr.fs j.sh.fs) hs j hk;unfold bz.cmp;generalize s.fin k j.exc 1 (decide (j.pr.st≠j.sh.st)) (yn j.pr j.sh) (qQ j.pr.fs j.sh.fs)=t at*;unfold bJ aZ pe zg jH at*;obtain⟨exc,conn,born,opn,po,rd,dg,jhs,jhp,sh,pr⟩:=j;simp only at*;cases jhp
 ·rw[if_neg (by rintro⟨h,_⟩;cases h)];refine ay.mk (n:=28) Tryz.func156 rfl rfl rfl (Nat.le_of_ble_eq_true rfl) (ao k rfl hg ?_);repeat'(first|refine ad ?_|refine dk ?_|refine ae (fun _=>?_) (fun _=>?_)|refine aq ?_)
  rfl
 ·cases jhs
  ·rw[if_neg (by rintro⟨_,h⟩;cases h)];refine ay.mk (n:=28) Tryz.func156 rfl rfl rfl (Nat.le_of_ble_eq_true rfl) (ao k rfl hg ?_);repeat'(first|refine ad ?_|refine dk ?_|refine ae (fun _=>?_) (fun _=>?_)|refine aq ?_)
   rfl
  ·rw[if_pos ⟨rfl,rfl⟩];refine ay.mk (n:=28) Tryz.func156 rfl rfl rfl (Nat.le_of_ble_eq_true rfl) (ao k rfl hg ?_);repeat'(first|refine ad ?_|refine dk ?_|refine ah (c1) ?_|refine ah (c2) ?_|refine ae (fun _=>?_) (fun _=>?_)|refine aq ?_)
   rfl
end Go.Proofs.YtgfdbddglhblbaaGreat
namespace Go.Proofs.YtgfdbddglhblbaaGreat
open Go.Eng
attribute [local irreducible] aO
set_option maxRecDepth 100000
theorem wQ:ay (CG G) 140 [.sl 1 []] [Mu DT 0 []]:=by
 have c1:=MW;unfold stD at c1;unfold Mu;refine ay.mk (n:=32) Tryz.func140 rfl rfl rfl (Nat.le_of_ble_eq_true rfl) (ah c1 (ad ?_));apply aA (fun _:Unit=>True) (fun _=>⟨[(0,.d (.sl 1 [])),(2,.op 16 0 0),(3,.op 17 0 0),(4,dI 0)],[(16,some (.box [.d (.i .u32 0),.d (.i .u32 0),.d (.i .u32 0),.d (.i .u32 0),.d (.i .u32 0),.d (.i .u32 0),.d (.i .u32 0),.d (.i .u32 0),dI 0,.d (.sl 1 [])])),(17,some (.box [.d (.i .u32 DT.x0),.d (.i .u32 DT.x1),.d (.i .u32 DT.x2),.d (.i .u32 DT.x3),.d (.i .u32 DT.x4),.d (.i .u32 DT.x5),.d (.i .u32 DT.x6),.d (.i .u32 DT.x7),dI 0,.d (.sl 1 [])]))],2⟩) (fun _=>0) () trivial [(16,_),(17,_)];·exact aF
 ·intro _ _;refine ad (ar ⟨by omega,by omega⟩ (ai (by simp) (bnd 0 rfl (by simp) (aB (by simp) ?_))));repeat'(first|refine ad ?_|refine dk ?_|refine ae (fun _=>?_) (fun _=>?_)|refine aq ?_)
  rfl
attribute [local irreducible] ed AJ lQ
def vW.add (d:vW)(b:List UInt8):vW:=⟨ed d.s (d.t++b) ((d.t++b).length/64),IntKind.i64.wrap (d.n+(b.length:Int)),(d.t++b).drop (64*((d.t++b).length/64))⟩
theorem vW.add_t (d:vW)(b:List UInt8):(d.add b).t.length≤64:=by show((d.t++b).drop (64*((d.t++b).length/64))).length≤64;rw[Nz];omega
theorem EE (d:vW)(b:List UInt8)(ht:d.t.length≤1000)(hb:b.length≤1000000000):ay (CG G) 118 [.agg [.i .u32 d.s.x0,.i .u32 d.s.x1,.i .u32 d.s.x2,.i .u32 d.s.x3,.i .u32 d.s.x4,.i .u32 d.s.x5,.i .u32 d.s.x6,.i .u32 d.s.x7,.i .i64 d.n,.sl 1 (aD d.t)],.sl 1 (aD b)] [.agg [.i .u32 (d.add b).s.x0,.i .u32 (d.add b).s.x1,.i .u32 (d.add b).s.x2,.i .u32 (d.add b).s.x3,.i .u32 (d.add b).s.x4,.i .u32 (d.add b).s.x5,.i .u32 (d.add b).s.x6,.i .u32 (d.add b).s.x7,.i .i64 (d.add b).n,.sl 1 (aD (d.add b).t)]]:=by
 have hbl:=aK b;have htl:=aK d.t;have hal:(d.t++b).length=d.t.length+b.length:=Na;have h0:=xw d.s (d.t++b);have happ:aD d.t++aD b=aD (d.t++b):=cU _ _;unfold vW.add;simp only;generalize d.t++b=a at*;have hel:(aD a).length=a.length:=aK a;generalize hK:a.length/64=K;refine ay.mk (n:=42) Tryz.func118 rfl rfl rfl (Nat.le_of_ble_eq_true rfl) (aB (by simp only[Nf];omega) (aB (by simp only[Na,Nf];omega) (ad ?_)));apply aA (fun k:Nat=>k≤K) (fun k=>⟨[(1,.d (.sl 1 (aD b))),(2,.op 16 0 0),(4,.op 17 0 0),(5,.d (.sl 1 (aD a))),(6,dI ((64*k:Nat):Int))],[(16,some (.box [.d (.i .u32 (ed d.s a k).x0),.d (.i .u32 (ed d.s a k).x1),.d (.i .u32 (ed d.s a k).x2),.d (.i .u32 (ed d.s a k).x3),.d (.i .u32 (ed d.s a k).x4),.d (.i .u32 (ed d.s a k).x5),.d (.i .u32 (ed d.s a k).x6),.d (.i .u32 (ed d.s a k).x7),dI d.n,.d (.sl 1 (aD d.t))])),(17,some (.box [.d (.i .u32 0),.d (.i .u32 0),.d (.i .u32 0),.d (.i .u32 0),.d (.i .u32 0),.d (.i .u32 0),.d (.i .u32 0),.d (.i .u32 0),dI 0,.d (.sl 1 [])]))],2⟩) (fun k=>K-k) 0 (Nat.zero_le _) [(16,_),(17,_)];·((repeat' constructor)<;>(first|refine aI ?_|rfl)<;>first|exact oT|skip);all_goals (first|rw[h0]|(rw[List.nil_append,happ])|skip)
 ·intro k hk;refine ad (ar ⟨by omega,by omega⟩ ?_);refine ae (fun h3=>?_) (fun h3=>?_)
  ·have hk':k<K:=by omega
   have hst:=ww d.s a k;have h64:((a.drop (64*k)).take 64).length=64:=by rw[Nj,Nz];omega
   have cm:=H8 (ed d.s a k) ((a.drop (64*k)).take 64) h64;rw[←hst] at cm;have he1:((aD a).take (64*k+64)).drop (64*k)=aD ((a.drop (64*k)).take 64):=by unfold aD;rw[List.drop_take,←List.map_drop,←List.map_take];congr 2;omega
   unfold stD at cm;refine ar ⟨by omega,by omega⟩ (bnd (64*k+64) (by omega) (by omega) (bnd (64*k) rfl (by omega) ?_));rw[he1];refine ah cm (dk (ar ⟨by omega,by omega⟩ ?_));apply aG (k+1) [(16,16),(17,17)] (by omega) (by omega);exact aF
  ·obtain rfl:k=K:=by omega
   refine bnd (64*k) rfl (by omega) (aB (by simp only[Nz,Nf];omega) (cY ?_));repeat'(first|refine ad ?_|refine dk ?_|refine ae (fun _=>?_) (fun _=>?_)|refine aq ?_)
   refine aN ?_;rw[hbl,fO];rfl
def H9 (m:Int)(k:Nat):UInt8:=rV (m.fdiv (2^(56-8*k)))
def me (m:Int):List UInt8:=(List.range 8).map (H9 m)
theorem nT (m:Int):(me m).length=8:=by simp[me]
theorem zU {m:Int}{k:Nat}(h:k<8):(me m).take (k+1)=(me m).take k++[H9 m k]:=by rw[Nh (by rw[nT];exact h)];simp[me]
def CP (t:Nat)(m:Int):List UInt8:=128::(List.replicate (lQ t) 0++me m)
def vW.sum (d:vW):List UInt8:=outF (d.add (CP d.t.length (IntKind.i64.wrap (8*d.n)))).s
theorem KR (d:vW)(ht:d.t.length≤1000):ay (CG G) 155 [.agg [.i .u32 d.s.x0,.i .u32 d.s.x1,.i .u32 d.s.x2,.i .u32 d.s.x3,.i .u32 d.s.x4,.i .u32 d.s.x5,.i .u32 d.s.x6,.i .u32 d.s.x7,.i .i64 d.n,.sl 1 (aD d.t)]] [.sl 1 (aD d.sum)]:=by
 have htl:=aK d.t;have hz:=Bq d.t.length 0 (Nat.zero_le _);unfold vW.sum;generalize hm8:IntKind.i64.wrap (8*d.n)=m;have hpl:(CP d.t.length m).length=1+lQ d.t.length+8:=by simp[CP,nT];omega
 have cw:=EE d (CP d.t.length m) ht (by omega);generalize d.add (CP d.t.length m)=R at*;refine ay.mk (n:=69) Tryz.func155 rfl rfl rfl (Nat.le_of_ble_eq_true rfl) (ad ?_);apply aA (fun i:Nat=>i≤lQ d.t.length) (fun i=>⟨[(1,.op 16 0 0),(3,dI d.n),(4,.os 17)],[(16,some (.box [.d (.i .u32 d.s.x0),.d (.i .u32 d.s.x1),.d (.i .u32 d.s.x2),.d (.i .u32 d.s.x3),.d (.i .u32 d.s.x4),.d (.i .u32 d.s.x5),.d (.i .u32 d.s.x6),.d (.i .u32 d.s.x7),dI d.n,.d (.sl 1 (aD d.t))])),(17,some (.buf 1 (aD (128::List.replicate i 0))))],2⟩) (fun i=>lQ d.t.length-i) 0 (Nat.zero_le _) [(16,_),(17,_)];·exact aF
 ·intro i hi;have hzi:=Bq d.t.length i hi;have hrl:(aD (128::List.replicate i 0)).length=1+i:=by rw[aK];simp;omega
  have hm:(((aD d.t).length:Int)+((aD (128::List.replicate i 0)).length:Int)).tmod 64=(((d.t.length+(1+i))%64:Nat):Int):=by rw[htl,hrl,←Int.natCast_add];exact(Int.ofNat_tmod _ 64).symm
  refine ad (ar ⟨by omega,by omega⟩ (eV (by omega) ?_));refine ae (fun h1=>?_) (fun h1=>?_)
  ·have hi':i<lQ d.t.length:=by omega
   refine aB (by simp only[hrl];simp;omega) ?_;apply aG (i+1) [(16,16),(17,_)] (by omega) (by omega);((repeat' constructor)<;>(first|refine aI ?_|rfl)<;>first|exact oT|skip);all_goals (rw[y5,←List.cons_append,←cU];rfl)
  ·obtain rfl:i=lQ d.t.length:=by omega
   refine ad ?_;apply aA (fun k:Nat=>k≤8) (fun k=>⟨[(1,.op 16 0 0),(3,dI d.n),(4,.os 17),(5,dI (7-(k:Int)))],[(16,some (.box [.d (.i .u32 d.s.x0),.d (.i .u32 d.s.x1),.d (.i .u32 d.s.x2),.d (.i .u32 d.s.x3),.d (.i .u32 d.s.x4),.d (.i .u32 d.s.x5),.d (.i .u32 d.s.x6),.d (.i .u32 d.s.x7),dI d.n,.d (.sl 1 (aD d.t))])),(17,some (.buf 1 (aD (128::(List.replicate (lQ d.t.length) 0++(me m).take k)))))],2⟩) (fun k=>8-k) 0 (Nat.zero_le _) [(16,16),(17,_)];·exact aF
   ·intro k hk;have hkl:(aD (128::(List.replicate (lQ d.t.length) 0++(me m).take k))).length≤100:=by rw[aK];simp only[Nb,Na,List.length_replicate,Nj];omega
    refine ad ?_;refine ae (fun h2=>?_) (fun h2=>?_)
    ·have hk':k<8:=by omega
     refine ad (bW m hm8 (ar ⟨by omega,by omega⟩ (And.intro (by omega) ?_)));refine bW ((H9 m k).toNat:Int) (by rw[aV];unfold H9;rw[show min ((8:Int)*(7-(k:Int))).toNat IntKind.i64.bits=56-8*k by simp only[IntKind.bits];omega]) ?_;refine aB (by simp only[Nb,Nf];omega) (ar ⟨by omega,by omega⟩ ?_);apply aG (k+1) [(16,16),(17,_)] (by omega) (by omega);((repeat' constructor)<;>(first|refine aI ?_|rfl)<;>first|exact oT|skip);all_goals (first|omega|(rw[zU hk'];simp[aD]))
    ·obtain rfl:k=8:=by omega
     rw[Nt (by rw[nT];omega)];rw[show 128::(List.replicate (lQ d.t.length) 0++me m)=CP d.t.length m from rfl];refine ah cw (ad ?_);apply aA (fun j:Nat=>j≤8) (fun j=>⟨[(1,.op 16 0 0),(6,.os 17),(7,dI (j:Int))],[(16,some (.box [.d (.i .u32 R.s.x0),.d (.i .u32 R.s.x1),.d (.i .u32 R.s.x2),.d (.i .u32 R.s.x3),.d (.i .u32 R.s.x4),.d (.i .u32 R.s.x5),.d (.i .u32 R.s.x6),.d (.i .u32 R.s.x7),dI R.n,.d (.sl 1 (aD R.t))])),(17,some (.buf 1 (aD ((R.s.l.take j).flatMap gh))))],2⟩) (fun j=>8-j) 0 (Nat.zero_le _) [(16,16),(17,_)];·exact aF
     ·intro j hj;have hol:(aD ((R.s.l.take j).flatMap gh)).length≤32:=by rw[aK];exact IM R.s j
      refine ad ?_;refine ae (fun h3=>?_) (fun h3=>?_)
      ·have hj':j<8:=by omega
       have hc:j=0∨j=1∨j=2∨j=3∨j=4∨j=5∨j=6∨j=7:=by omega
       rcases hc with rfl|rfl|rfl|rfl|rfl|rfl|rfl|rfl;·refine ad (bh 0 rfl (by decide) (And.intro (by decide) (bW _ (aV _) (bh 0 rfl (by decide) (And.intro (by decide) (bW _ (aV _) (bh 0 rfl (by decide) (And.intro (by decide) (bW _ (aV _) (bh 0 rfl (by decide) (bW _ (aV _) ?_)))))))))));refine aB (by simp only[Nb,Nf];omega) (dk (ar ⟨by omega,by omega⟩ ?_));apply aG 1 [(16,16),(17,_)] (by decide) (by decide);((repeat' constructor)<;>(first|refine aI ?_|rfl)<;>first|exact oT|skip);all_goals exact fX R.s hj'
       ·refine ad (bh 1 rfl (by decide) (And.intro (by decide) (bW _ (aV _) (bh 1 rfl (by decide) (And.intro (by decide) (bW _ (aV _) (bh 1 rfl (by decide) (And.intro (by decide) (bW _ (aV _) (bh 1 rfl (by decide) (bW _ (aV _) ?_)))))))))));refine aB (by simp only[Nb,Nf];omega) (dk (ar ⟨by omega,by omega⟩ ?_));apply aG 2 [(16,16),(17,_)] (by decide) (by decide);((repeat' constructor)<;>(first|refine aI ?_|rfl)<;>first|exact oT|skip);all_goals exact fX R.s hj'
       ·refine ad (bh 2 rfl (by decide) (And.intro (by decide) (bW _ (aV _) (bh 2 rfl (by decide) (And.intro (by decide) (bW _ (aV _) (bh 2 rfl (by decide) (And.intro (by decide) (bW _ (aV _) (bh 2 rfl (by decide) (bW _ (aV _) ?_)))))))))));refine aB (by simp only[Nb,Nf];omega) (dk (ar ⟨by omega,by omega⟩ ?_));apply aG 3 [(16,16),(17,_)] (by decide) (by decide);((repeat' constructor)<;>(first|refine aI ?_|rfl)<;>first|exact oT|skip);all_goals exact fX R.s hj'
       ·refine ad (bh 3 rfl (by decide) (And.intro (by decide) (bW _ (aV _) (bh 3 rfl (by decide) (And.intro (by decide) (bW _ (aV _) (bh 3 rfl (by decide) (And.intro (by decide) (bW _ (aV _) (bh 3 rfl (by decide) (bW _ (aV _) ?_)))))))))));refine aB (by simp only[Nb,Nf];omega) (dk (ar ⟨by omega,by omega⟩ ?_));apply aG 4 [(16,16),(17,_)] (by decide) (by decide);((repeat' constructor)<;>(first|refine aI ?_|rfl)<;>first|exact oT|skip);all_goals exact fX R.s hj'
       ·refine ad (bh 4 rfl (by decide) (And.intro (by decide) (bW _ (aV _) (bh 4 rfl (by decide) (And.intro (by decide) (bW _ (aV _) (bh 4 rfl (by decide) (And.intro (by decide) (bW _ (aV _) (bh 4 rfl (by decide) (bW _ (aV _) ?_)))))))))));refine aB (by simp only[Nb,Nf];omega) (dk (ar ⟨by omega,by omega⟩ ?_));apply aG 5 [(16,16),(17,_)] (by decide) (by decide);((repeat' constructor)<;>(first|refine aI ?_|rfl)<;>first|exact oT|skip);all_goals exact fX R.s hj'
       ·refine ad (bh 5 rfl (by decide) (And.intro (by decide) (bW _ (aV _) (bh 5 rfl (by decide) (And.intro (by decide) (bW _ (aV _) (bh 5 rfl (by decide) (And.intro (by decide) (bW _ (aV _) (bh 5 rfl (by decide) (bW _ (aV _) ?_)))))))))));refine aB (by simp only[Nb,Nf];omega) (dk (ar ⟨by omega,by omega⟩ ?_));apply aG 6 [(16,16),(17,_)] (by decide) (by decide);((repeat' constructor)<;>(first|refine aI ?_|rfl)<;>first|exact oT|skip);all_goals exact fX R.s hj'
       ·refine ad (bh 6 rfl (by decide) (And.intro (by decide) (bW _ (aV _) (bh 6 rfl (by decide) (And.intro (by decide) (bW _ (aV _) (bh 6 rfl (by decide) (And.intro (by decide) (bW _ (aV _) (bh 6 rfl (by decide) (bW _ (aV _) ?_)))))))))));refine aB (by simp only[Nb,Nf];omega) (dk (ar ⟨by omega,by omega⟩ ?_));apply aG 7 [(16,16),(17,_)] (by decide) (by decide);((repeat' constructor)<;>(first|refine aI ?_|rfl)<;>first|exact oT|skip);all_goals exact fX R.s hj'
       ·refine ad (bh 7 rfl (by decide) (And.intro (by decide) (bW _ (aV _) (bh 7 rfl (by decide) (And.intro (by decide) (bW _ (aV _) (bh 7 rfl (by decide) (And.intro (by decide) (bW _ (aV _) (bh 7 rfl (by decide) (bW _ (aV _) ?_)))))))))));refine aB (by simp only[Nb,Nf];omega) (dk (ar ⟨by omega,by omega⟩ ?_));apply aG 8 [(16,16),(17,_)] (by decide) (by decide);((repeat' constructor)<;>(first|refine aI ?_|rfl)<;>first|exact oT|skip);all_goals exact fX R.s hj'
      ·obtain rfl:j=8:=by omega
       repeat'(first|refine ad ?_|refine dk ?_|refine ae (fun _=>?_) (fun _=>?_)|refine aq ?_)
       refine aN ?_;rfl
end Go.Proofs.YtgfdbddglhblbaaGreat
