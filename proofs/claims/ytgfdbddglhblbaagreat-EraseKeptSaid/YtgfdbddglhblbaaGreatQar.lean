/- A part of the proof of what is stated of the erasing of a mirror. -/
import Derived.Test.YtgfdbddglhblbaaGreatQaq
import Derived.Test.YtgfdbddglhblbaaGreatQap
import Derived.Laws.StructEq
import Derived.WalkKit
set_option maxHeartbeats 64000000
namespace Go.Proofs.YtgfdbddglhblbaaGreat
open Go.Eng
attribute [local irreducible] aO
set_option maxRecDepth 100000
theorem iN (ns:List (List UInt8))(f:bB)(hl:ns.length≤9223372036854775806)(hn:∀n,n∈ns→n.length≤140737488355328)(hf:f.1.length≤140737488355328):ay (CG G) 142 [bP ns,.s f.1] [.b (iy ns f)]:=by
 have hlen:(ns.map D.s).length=ns.length:=by simp
 unfold bP;refine ay.mk (n:=18) Tryz.func142 rfl rfl rfl (Nat.le_of_ble_eq_true rfl) (ad ?_);apply aA (fun i:Nat=>i≤ns.length∧∀j (h:j<ns.length),j<i→cv ns[j] f=false) (fun i=>⟨[(0,.d (.sl 1 (ns.map .s))),(1,.d (.s f.1)),(5,dI (i:Int))],[],2⟩) (fun i=>ns.length-i) 0 ⟨Nat.zero_le _,fun j _ hj=>by omega⟩ [];·exact aF
 ·rintro i ⟨hi,hp⟩;refine ad ?_;refine ae (fun h1=>?_) (fun h1=>?_)
  ·have hi':i<ns.length:=by omega
   refine ad (ao i rfl (bt hi') ?_);have c1:=wv ns[i] f.1 (hn _ (Nr hi')) hf;by_cases hb:bY ns[i]=bY f.1;·rw[decide_eq_true hb] at c1;refine ah c1 (fW ?_);rw[show iy ns f=true from List.any_eq_true.2 ⟨ns[i],Nr hi',by simp[cv,hb]⟩]
   ·rw[decide_eq_false hb] at c1;refine ah c1 (ar ⟨by omega,by omega⟩ ?_);apply aG (i+1) [] ⟨by omega,fun j h hj=>by
     by_cases hji:j<i;·exact hp j h hji
     ·obtain rfl:j=i:=by omega
      exact decide_eq_false (fun e=>hb e.symm)⟩ (by omega);exact aF
  ·obtain rfl:i=ns.length:=by omega
   refine fW ?_;have:iy ns f=false:=by cases h:iy ns f with|false=>rfl;|true=>obtain⟨n,hn1,hn2⟩:=List.any_eq_true.1 h;obtain⟨j,hj,rfl⟩:=List.getElem_of_mem hn1;rw[hp j hj hj] at hn2;cases hn2
   rw[this]
theorem Ls (l:List bB)(ns:List (List UInt8))(hl:l.length≤68719476736)(hf:∀f,f∈l→f.1.length≤140737488355328)(hns:ns.length≤9223372036854775806)(hn:∀n,n∈ns→n.length≤140737488355328):ay (CG G) 190 [.sl 2 (l.map aL),bP ns] [.sl 2 ((ga ns l).map aL)]:=by
 have hlen:(l.map aL).length=l.length:=by simp
 refine ay.mk (n:=29) Tryz.func190 rfl rfl rfl (Nat.le_of_ble_eq_true rfl) (ad ?_);apply aA (fun i:Nat=>i≤l.length) (fun i=>⟨[(0,.d (.sl 2 (l.map aL))),(1,.d (bP ns)),(5,.os 16),(6,dI (i:Int))],[(16,some (.buf 2 ((ga ns (l.take i)).map aL)))],2⟩) (fun i=>l.length-i) 0 (Nat.zero_le _) [(16,_)];·exact aF
 ·intro i hi;refine ad ?_;refine ae (fun h1=>?_) (fun h1=>?_)
  ·have hi':i<l.length:=by omega
   have hb:(ga ns (l.take i)).length≤i:=Nat.le_trans (m9 _ _) (by simp;omega);have hs:ga ns (l.take (i+1))=if iy ns l[i] then ga ns (l.take i) else ga ns (l.take i)++[l[i]]:=by rw[Nh hi',xK]
   have c2:=iN ns l[i] hns hn (hf _ (Nr hi'));refine ad (ao i rfl (gq hi') ?_);cases hb2:iy ns l[i] with|true=>rw[hb2] at c2 hs;rw[if_pos rfl] at hs;refine ah c2 (ar ⟨by omega,by omega⟩ ?_);apply aG (i+1) [(16,_)] (by omega) (by omega);((repeat' constructor)<;>(first|refine aI ?_|rfl)<;>first|exact oT|skip);all_goals rw[hs];|false=>rw[hb2] at c2 hs;rw[if_neg (by decide)] at hs;refine ah c2 (ao i rfl (gq hi') (aB (by simp;omega) (ar ⟨by omega,by omega⟩ ?_)));apply aG (i+1) [(16,_)] (by omega) (by omega);((repeat' constructor)<;>(first|refine aI ?_|rfl)<;>first|exact oT|skip);all_goals (rw[hs];simp[aL])
  ·obtain rfl:i=l.length:=by omega
   rw[Nt (Nat.le_refl _)];rfl
theorem Fe (l:List (List UInt8))(hl:aX l≤4294967295):ay (CG G) 173 [bP l] [bP (cJ l)]:=by
 have hlen:(l.map D.s).length=l.length:=by simp
 have hll:l.length≤4294967295:=by
  have:l.length≤aX l:=by unfold aX;clear hl hlen;induction l with|nil=>simp;|cons x r ih=>simp only[Nb,Nw,List.sum_cons];omega
  omega
 unfold bP;refine ay.mk (n:=37) Tryz.func173 rfl rfl rfl (Nat.le_of_ble_eq_true rfl) (ad ?_);apply aA (fun i:Nat=>i≤l.length) (fun i=>⟨[(0,.d (.sl 1 (l.map .s))),(3,.os 16),(4,dI (i:Int))],[(16,some (.buf 1 ((cJ (l.take i)).map .s)))],2⟩) (fun i=>l.length-i) 0 (Nat.zero_le _) [(16,_)];·exact aF
 ·intro i hi;refine ad ?_;refine ae (fun h1=>?_) (fun h1=>?_)
  ·have hi':i<l.length:=by omega
   have hs:=nQ hi';have hb:=m0 (l.take i);have hsp:=rP l[i] 44 (by omega);have hpl:=fQ 44 l[i];have hcl:l[i].count 44≤l[i].length:=List.count_le_length;have hpm:∀x,x∈bm 44 l[i]→x.length≤9223372036854775807:=fun x hx=>by have:=dz hx;omega
   have hfin:cJ (l.take (i+1))=cJ (l.take i)++ea (bm 44 l[i]):=by rw[Nh hi',ur];rfl
   generalize bm 44 l[i]=ps at hsp hpl hpm hfin;unfold bP at hsp;have hplen:(ps.map D.s).length=ps.length:=by simp
   refine ad (ao i rfl (bt hi') (ah hsp ?_));apply aA (fun j:Nat=>j≤ps.length) (fun j=>⟨[(0,.d (.sl 1 (l.map .s))),(3,.os 16),(4,dI (i:Int)),(5,.d (.sl 1 (ps.map .s))),(6,dI (j:Int))],[(16,some (.buf 1 ((cJ (l.take i)++ea (ps.take j)).map .s)))],2⟩) (fun j=>ps.length-j) 0 (Nat.zero_le _) [(16,_)];·((repeat' constructor)<;>(first|refine aI ?_|rfl)<;>first|exact oT|skip);all_goals simp[ea]
   ·intro j hj;refine ad ?_;refine ae (fun k1=>?_) (fun k1=>?_)
    ·have hj':j<ps.length:=by omega
     have hk:=nP (ps.take j);have hk2:(ps.take j).length≤j:=by simp;omega
     have ht:=td ps[j] (hpm _ (Nr hj'));have hst:ea (ps.take (j+1))=if dA ps[j]=[] then ea (ps.take j) else ea (ps.take j)++[dA ps[j]]:=by rw[Nh hj',q7]
     refine ad (ao j rfl (bt hj') (ah ht ?_));refine ae (fun g=>?_) (fun g=>?_);·rw[if_neg g] at hst;refine aB (by simp;omega) (ar ⟨by omega,by omega⟩ ?_);apply aG (j+1) [(16,_)] (by omega) (by omega);((repeat' constructor)<;>(first|refine aI ?_|rfl)<;>first|exact oT|skip);all_goals (rw[hst];simp)
     ·rw[if_pos (Nq.1 g)] at hst;refine aq ?_;apply aG (j+1) [(16,_)] (by omega) (by omega);((repeat' constructor)<;>(first|refine aI ?_|rfl)<;>first|exact oT|skip);all_goals rw[hst]
    ·obtain rfl:j=ps.length:=by omega
     rw[Nt (Nat.le_refl _)];refine aq ?_;apply aG (i+1) [(16,_)] (by omega) (by omega);((repeat' constructor)<;>(first|refine aI ?_|rfl)<;>first|exact oT|skip);all_goals rw[hfin]
  ·obtain rfl:i=l.length:=by omega
   rw[Nt (Nat.le_refl _)];rfl
theorem xo (l:List bB)(n:List UInt8)(hl:l.length≤68719476736)(hf:∀f,f∈l→f.1.length≤140737488355328)(hn:n.length≤140737488355328)(hs:aX (aM n l)≤4294967295):ay (CG G) 143 [.sl 2 (l.map aL),.s n] [bP (cJ (aM n l))]:=by have c1:=oQ l n hl hn hf;have c2:=Fe (aM n l) hs;refine ay.mk (n:=9) Tryz.func143 rfl rfl rfl (Nat.le_of_ble_eq_true rfl) (ah c1 (ah c2 ?_));rfl
def Kf:List UInt8:=[99,111,110,110,101,99,116,105,111,110]
def kD:List (List UInt8):=[[99,111,110,110,101,99,116,105,111,110],[107,101,101,112,45,97,108,105,118,101],[112,114,111,120,121,45,99,111,110,110,101,99,116,105,111,110],[116,101],[116,114,97,105,108,101,114],[116,114,97,110,115,102,101,114,45,101,110,99,111,100,105,110,103],[117,112,103,114,97,100,101],[101,120,112,101,99,116],[99,111,110,116,101,110,116,45,108,101,110,103,116,104]]
theorem FR {a b:List (List UInt8)}(h:a.map bY=b.map bY)(f:bB):iy a f=iy b f:=by
 have e:∀l:List (List UInt8),iy l f=(l.map bY).any fun x=>decide (bY f.1=x):=fun l=>by unfold iy cv;rw[List.any_map];rfl
 rw[e,e,h]
theorem AN {a b:List (List UInt8)}(h:a.map bY=b.map bY)(l:List bB):ga a l=ga b l:=by unfold ga;congr 1;funext f;rw[FR h]
theorem Dz {a b:List UInt8}(h:bY a=bY b)(l:List bB):aM a l=aM b l:=by unfold aM;congr 1;congr 1;funext f;unfold cv;rw[h]
theorem Cy (es:List (List UInt8)):(kD++es).map bY=(zi++es).map bY:=by rw[Ng,Ng,show kD.map bY=zi.map bY by decide]
theorem vZ (l:List bB)(hl:l.length≤68719476736)(hf:∀f,f∈l→f.1.length≤140737488355328)(hs:aX (aM gQ l)≤4294967295)(he:∀e,e∈cJ (aM gQ l)→e.length≤140737488355328):ay (CG G) 191 [.sl 2 (l.map aL)] [.sl 2 ((bw l).map aL)]:=by
 have hcl:aM Kf l=aM gQ l:=Dz (by decide) l;have c1:=xo l Kf hl hf (by decide) (by rw[hcl];exact hs);rw[hcl] at c1;have hel:(cJ (aM gQ l)).length≤4294967295:=Nat.le_trans (m0 _) hs;have hstrip:bw l=ga (kD++(cJ (aM gQ l)).filter ir) l:=by unfold bw Hb;exact(AN (Cy _) l).symm
 have c2:=Ls l (kD++(cJ (aM gQ l)).filter ir) hl hf (by rw[Na];have:=NC ir (cJ (aM gQ l));have:kD.length=9:=rfl;omega) (fun n hn=>by
  rcases Np.1 hn with h|h
  ·have:∀x,x∈kD→x.length≤140737488355328:=by decide
   exact this n h
  ·exact he n (List.mem_filter.1 h).1);rw[←hstrip] at c2;generalize bw l=res at c2⊢;clear hstrip;generalize cJ (aM gQ l)=es at c1 c2 hel he;have hlen:(es.map D.s).length=es.length:=by simp
 unfold bP at*;refine ay.mk (n:=39) Tryz.func191 rfl rfl rfl (Nat.le_of_ble_eq_true rfl) (ah c1 (ad ?_));apply aA (fun i:Nat=>i≤es.length) (fun i=>⟨[(0,.d (.sl 2 (l.map aL))),(3,.os 16),(4,.d (.sl 1 (es.map .s))),(5,dI (i:Int))],[(16,some (.buf 1 ((kD++(es.take i).filter ir).map .s)))],2⟩) (fun i=>es.length-i) 0 (Nat.zero_le _) [(16,_)];·exact aF
 ·intro i hi;refine ad ?_;refine ae (fun h1=>?_) (fun h1=>?_)
  ·have hi':i<es.length:=by omega
   have ch:=wv es[i] [104,111,115,116] (he _ (Nr hi')) (by decide);have cc:=wv es[i] [99,111,111,107,105,101] (he _ (Nr hi')) (by decide);rw[show bY [104,111,115,116]=bY Hx by decide] at ch;rw[show bY [99,111,111,107,105,101]=bY Gz by decide] at cc;have hst:(es.take (i+1)).filter ir=if ir es[i] then(es.take i).filter ir++[es[i]] else(es.take i).filter ir:=by rw[Nh hi',List.filter_append];by_cases h:ir es[i]<;>simp[h,List.filter]
   have hfl:((es.take i).filter ir).length≤i:=Nat.le_trans (NC _ _) (by simp;omega);refine ad (ao i rfl (bt hi') ?_);by_cases g1:bY es[i]=bY Hx;·rw[decide_eq_true g1] at ch;rw[if_neg (by simp[ir,g1])] at hst;refine ah ch (ar ⟨by omega,by omega⟩ ?_);apply aG (i+1) [(16,_)] (by omega) (by omega);((repeat' constructor)<;>(first|refine aI ?_|rfl)<;>first|exact oT|skip);all_goals rw[hst]
   ·rw[decide_eq_false g1] at ch;refine ah ch (ao i rfl (bt hi') ?_);by_cases g2:bY es[i]=bY Gz;·rw[decide_eq_true g2] at cc;rw[if_neg (by simp[ir,g2])] at hst;refine ah cc (ar ⟨by omega,by omega⟩ ?_);apply aG (i+1) [(16,_)] (by omega) (by omega);((repeat' constructor)<;>(first|refine aI ?_|rfl)<;>first|exact oT|skip);all_goals rw[hst]
    ·rw[decide_eq_false g2] at cc;rw[if_pos (by simp[ir,g1,g2])] at hst;refine ah cc (ao i rfl (bt hi') (aB (by simp[kD];omega) (ar ⟨by omega,by omega⟩ ?_)));apply aG (i+1) [(16,_)] (by omega) (by omega);((repeat' constructor)<;>(first|refine aI ?_|rfl)<;>first|exact oT|skip);all_goals (rw[hst];simp)
  ·obtain rfl:i=es.length:=by omega
   rw[Nt (Nat.le_refl _)];refine ah c2 ?_;rfl
def M9 (c:UInt8):Bool:=decide (48≤c.toNat∧c.toNat≤57)||decide (97≤c.toNat∧c.toNat≤102)
def GY (s:List UInt8):Bool:=s.all M9&&decide (s.length=16)
theorem idR (s:List UInt8)(hs:s.length≤1000000000):ay (CG G) 168 [.s s] [.b (GY s)]:=by
 refine ay.mk (n:=30) Tryz.func168 rfl rfl rfl (Nat.le_of_ble_eq_true rfl) (ad ?_);apply aA (fun i:Nat=>i≤s.length∧(s.take i).all M9=true) (fun i=>⟨[(0,.d (.s s)),(3,dI (i:Int))],[],2⟩) (fun i=>s.length-i) 0 ⟨Nat.zero_le _,rfl⟩ [];·exact aF
 ·rintro i ⟨hi,ha⟩;refine ad ?_;refine ae (fun h1=>?_) (fun h1=>?_)
  ·have hi':i<s.length:=by omega
   have hc:=toNat_lt s[i];have hd:=vQ s[i];have hg:s[i]?=some s[i]:=No hi';have nx:M9 s[i]=true→(s.take (i+1)).all M9=true:=fun h=>iI hi' ha h;have bad:M9 s[i]=false→GY s=false:=fun h=>by unfold GY;rw[iJ hi' h];rfl
   unfold M9 at nx bad;generalize s[i]=c at*;refine ad (ao i rfl hg ?_);by_cases hb:48≤c.toNat∧c.toNat≤57
   ·rw[decide_eq_true hb] at hd nx bad;repeat'(first|refine ad ?_|refine dk ?_|refine ah (hd) ?_|refine ae (fun _=>?_) (fun _=>?_)|refine aq ?_)
    apply aG (i+1) [] ⟨by omega,nx rfl⟩ (by omega);exact aF
   ·rw[decide_eq_false hb] at hd nx bad;refine ah hd (ao i rfl hg ?_);refine ae (fun g1=>?_) (fun g1=>?_)
    ·repeat'(first|refine ad ?_|refine dk ?_|refine ae (fun _=>?_) (fun _=>?_)|refine aq ?_)
     rw[bad (by rw[decide_eq_false (by omega)];rfl)];rfl
    ·refine ao i rfl hg ?_;refine ae (fun g2=>?_) (fun g2=>?_)
     ·repeat'(first|refine ad ?_|refine dk ?_|refine ae (fun _=>?_) (fun _=>?_)|refine aq ?_)
      rw[bad (by rw[decide_eq_false (by omega)];rfl)];rfl
     ·repeat'(first|refine ad ?_|refine dk ?_|refine ae (fun _=>?_) (fun _=>?_)|refine aq ?_)
      apply aG (i+1) [] ⟨by omega,nx (by rw[decide_eq_true (by omega)];rfl)⟩ (by omega);exact aF
  ·have hall:=kY (p:=M9) (by omega) ha;repeat'(first|refine ad ?_|refine dk ?_|refine ae (fun _=>?_) (fun _=>?_)|refine aq ?_)
   all_goals refine congrArg (fun x=>[D.b x]) ?_
   all_goals (unfold GY;rw[hall];symm)
   ·rw[decide_eq_true (by omega)];rfl
   ·rw[decide_eq_false (by omega)];rfl
def ei (s:List UInt8):List bB:=match gy 61 s with|none=>[]|some j=>if eX (s.take j) then[(s.take j,s.drop (j+1))] else[]
def vE (v:List UInt8):List bB:=(bm 59 v).flatMap fun x=>ei (dA x)
def cZ (vs:List (List UInt8)):List bB:=vs.flatMap vE
theorem sd (s:List UInt8):(ei s).length≤1:=by
 unfold ei;split;·simp
 ·split<;>simp
theorem nN {α β:Type}(f:α→List β)(h:∀x,(f x).length≤1):∀l:List α,(l.flatMap f).length≤l.length|[]=>by simp;|x::r=>by have:=nN f h r;have:=h x;simp only[List.flatMap_cons,Na,Nb];omega
theorem Az (v:List UInt8):(vE v).length≤v.length+1:=by have h1:=nN (fun x=>ei (dA x)) (fun x=>sd _) (bm 59 v);have h2:=uy 59 v;unfold vE;omega
theorem kI:∀vs:List (List UInt8),vs.length≤aX vs|[]=>by simp[aX];|v::r=>by have:=kI r;unfold aX at*;simp only[Nb,Nw,List.sum_cons];omega
theorem lX:∀vs:List (List UInt8),(cZ vs).length≤aX vs|[]=>by simp[cZ];|v::r=>by have h1:=lX r;have h2:=Az v;unfold cZ aX at*;simp only[List.flatMap_cons,Na,Nw,List.sum_cons];omega
theorem nW {α β:Type}(f:α→List β){l:List α}{i:Nat}(hi:i<l.length):(l.take (i+1)).flatMap f=(l.take i).flatMap f++f l[i]:=by rw[tp hi,List.flatMap_append];simp
def qD:List UInt8:=[99,111,111,107,105,101]
theorem La (l:List bB)(hl:l.length≤1000000)(hf:∀f,f∈l→f.1.length≤1000000000)(hs:aX (aM qD l)≤1000000000):ay (CG G) 200 [.sl 2 (l.map aL)] [.sl 2 ((cZ (aM qD l)).map aL)]:=by
 have c1:=oQ l qD (by omega) (by decide) (fun f h=>by have:=hf f h;omega);generalize aM qD l=vs at*;unfold bP at c1;have hvl:(vs.map D.s).length=vs.length:=by simp
 have hvs:=kI vs;refine ay.mk (n:=60) Tryz.func200 rfl rfl rfl (Nat.le_of_ble_eq_true rfl) (ah c1 (ad ?_));apply aA (fun i:Nat=>i≤vs.length) (fun i=>⟨[(3,.os 17),(4,.d (.sl 1 (vs.map D.s))),(5,dI (i:Int))],[(17,some (.buf 2 ((cZ (vs.take i)).map aL)))],2⟩) (fun i=>vs.length-i) 0 (Nat.zero_le _) [(17,_)];·exact aF
 ·intro i hi;refine ad ?_;refine ae (fun h1=>?_) (fun h1=>?_)
  ·have hi':i<vs.length:=by omega
   have hst:=nQ hi';have hpl:=lX (vs.take i);have hsp:=rP vs[i] 59 (by omega);have hle:=uy 59 vs[i];have hpm:∀x,x∈bm 59 vs[i]→x.length≤1000000000:=fun x hx=>by have:=dz hx;omega
   have hfin:cZ (vs.take (i+1))=cZ (vs.take i)++(bm 59 vs[i]).flatMap fun x=>ei (dA x):=nW vE hi';generalize bm 59 vs[i]=ps at hsp hpm hfin hle;generalize cZ (vs.take i)=out0 at hpl hfin⊢;unfold bP at hsp;have hplen:(ps.map D.s).length=ps.length:=by simp
   refine ad (ao i rfl (bt hi') (ah hsp ?_));apply aA (fun k:Nat=>k≤ps.length) (fun k=>⟨[(3,.os 17),(4,.d (.sl 1 (vs.map D.s))),(5,dI (i:Int)),(6,.d (.sl 1 (ps.map D.s))),(7,dI (k:Int))],[(17,some (.buf 2 ((out0++(ps.take k).flatMap fun x=>ei (dA x)).map aL)))],2⟩) (fun k=>ps.length-k) 0 (Nat.zero_le _) [(17,_)];·((repeat' constructor)<;>(first|refine aI ?_|rfl)<;>first|exact oT|skip);all_goals simp
   ·intro k hk;refine ad ?_;refine ae (fun k1=>?_) (fun k1=>?_)
    ·have hk':k<ps.length:=by omega
     have hps:=hpm _ (Nr hk');have ht:=td ps[k] (by omega);have htl:=fM ps[k];have hol:(out0++(ps.take k).flatMap fun x=>ei (dA x)).length≤2000000000:=by
      have h1:=nN (fun x=>ei (dA x)) (fun x=>sd _) (ps.take k);have h2:(ps.take k).length≤ps.length:=by simp;omega
      rw[Na];omega
     have hnx:out0++((ps.take (k+1)).flatMap fun x=>ei (dA x))=(out0++(ps.take k).flatMap fun x=>ei (dA x))++ei (dA ps[k]):=by rw[nW _ hk',List.append_assoc]
     generalize (out0++(ps.take k).flatMap fun x=>ei (dA x))=out1 at*;generalize hss:dA ps[k]=s at*;refine ad (ao k rfl (bt hk') (ah ht ?_));apply aA (fun j:Nat=>j≤s.length∧61∉s.take j) (fun j=>⟨[(3,.os 17),(4,.d (.sl 1 (vs.map D.s))),(5,dI (i:Int)),(6,.d (.sl 1 (ps.map D.s))),(7,dI (k:Int)),(8,.d (.s s)),(9,dI (j:Int))],[(17,some (.buf 2 (out1.map aL)))],2⟩) (fun j=>s.length-j) 0 ⟨Nat.zero_le _,by simp⟩ [(17,_)];·exact aF
     ·rintro j ⟨hj,hnot⟩;refine ad ?_;refine ae (fun g1=>?_) (fun g1=>?_)
      ·have hj':j<s.length:=by omega
       refine ad ?_;refine ao j rfl (No hj') ?_;refine ae (fun g2=>?_) (fun g2=>?_)
       ·have h61:s[j]=61:=UInt8.toNat_inj.1 (by have e:((61:UInt8).toNat:Int)=61:=rfl;omega);have hix:gy 61 s=some j:=uF (by rw[No hj',h61]) hnot;have htok:=n9 (s.take j) (by simp;omega);have hpo:ei s=if eX (s.take j) then[(s.take j,s.drop (j+1))] else[]:=by unfold ei;rw[hix]
        refine ad (bnd j rfl (by omega) ?_);refine bp htok (fun b1=>?_) (fun b1=>?_);·rw[b1,if_pos rfl] at hpo;refine bnd j rfl (by omega) (ar ⟨by omega,by omega⟩ (bnd (j+1) (by omega) (by omega) (aB (by simp;omega) (dk (ar ⟨by omega,by omega⟩ ?_)))));apply aG (k+1) [(17,_)] (by omega) (by omega);((repeat' constructor)<;>(first|refine aI ?_|rfl)<;>first|exact oT|skip);all_goals (rw[hnx,hpo];simp[aL])
        ·rw[b1,if_neg (by decide)] at hpo;refine aq ?_;apply aG (k+1) [(17,_)] (by omega) (by omega);((repeat' constructor)<;>(first|refine aI ?_|rfl)<;>first|exact oT|skip);all_goals (rw[hnx,hpo];simp)
       ·have h61:s[j]≠61:=fun e=>g2 (by rw[e];rfl);refine aq ?_;apply aG (j+1) [(17,_)] ⟨by omega,by rw[tp hj'];intro h;rcases Np.1 h with h|h;exact hnot h;simp at h;exact h61 h.symm⟩ (by omega);exact aF
      ·have hpo:ei s=[]:=by unfold ei;rw[pP.2 (by rw[Nt (by omega)] at hnot;exact hnot)]
       refine aq ?_;apply aG (k+1) [(17,_)] (by omega) (by omega);((repeat' constructor)<;>(first|refine aI ?_|rfl)<;>first|exact oT|skip);all_goals (rw[hnx,hpo];simp)
    ·obtain rfl:k=ps.length:=by omega
     rw[ND];refine aq ?_;apply aG (i+1) [(17,_)] (by omega) (by omega);((repeat' constructor)<;>(first|refine aI ?_|rfl)<;>first|exact oT|skip);all_goals rw[hfin]
  ·obtain rfl:i=vs.length:=by omega
   rw[ND];rfl
def NF (n:List UInt8):List bB→List UInt8×Bool|[]=>([],false)|p::r=>if p.1=n then(p.2,true) else NF n r
theorem Dg {n:List UInt8}{l:List bB}{i:Nat}(hi:i<l.length)(h:NF n l=NF n (l.drop i)):(l[i].1=n→NF n l=(l[i].2,true))∧(l[i].1≠n→NF n l=NF n (l.drop (i+1))):=by rw[Ny hi,NF] at h;exact⟨fun e=>by rw[h,if_pos e],fun e=>by rw[h,if_neg e]⟩
theorem findR (l:List bB)(n:List UInt8)(hl:l.length≤1000000)(hf:∀f,f∈l→f.1.length≤1000000000)(hs:aX (aM qD l)≤1000000000):ay (CG G) 167 [.sl 2 (l.map aL),.s n] [.s (NF n (cZ (aM qD l))).1,.b (NF n (cZ (aM qD l))).2]:=by
 have c1:=La l hl hf hs;have hpl:=lX (aM qD l);generalize cZ (aM qD l)=ps at*;have hvl:(ps.map aL).length=ps.length:=by simp
 refine ay.mk (n:=28) Tryz.func167 rfl rfl rfl (Nat.le_of_ble_eq_true rfl) (ah c1 (ad ?_));apply aA (fun i:Nat=>i≤ps.length∧NF n ps=NF n (ps.drop i)) (fun i=>⟨[(1,.d (.s n)),(6,.d (.sl 2 (ps.map aL))),(7,dI (i:Int))],[],2⟩) (fun i=>ps.length-i) 0 ⟨Nat.zero_le _,rfl⟩ [];·exact aF
 ·rintro i ⟨hi,hh⟩;refine ad ?_;refine ae (fun h1=>?_) (fun h1=>?_)
  ·have hi':i<ps.length:=by omega
   have hhit:=Dg hi' hh;refine ad (ao i rfl (gq hi') ?_);refine ae (fun h2=>?_) (fun h2=>?_)
   ·refine ao i rfl (gq hi') ?_;repeat'(first|refine ad ?_|refine dk ?_|refine ae (fun _=>?_) (fun _=>?_)|refine aq ?_)
    refine aN ?_;rw[hhit.1 h2]
   ·repeat'(first|refine ad ?_|refine dk ?_|refine ae (fun _=>?_) (fun _=>?_)|refine aq ?_)
    apply aG (i+1) [] ⟨by omega,hhit.2 h2⟩ (by omega);exact aF
  ·obtain rfl:i=ps.length:=by omega
   repeat'(first|refine ad ?_|refine dk ?_|refine ae (fun _=>?_) (fun _=>?_)|refine aq ?_)
   refine aN ?_;rw[hh,List.drop_length];rfl
def br (l:List bB):Nat:=(l.map fun f=>f.1.length+f.2.length+1).sum
theorem dj (f:bB)(l:List bB):br (f::l)=f.1.length+f.2.length+1+br l:=by simp[br]
theorem dE (l:List bB):l.length≤br l:=by induction l with|nil=>exact Nat.le_refl _;|cons f r ih=>rw[dj,Nb];omega
theorem eu {l:List bB}{f:bB}(h:f∈l):f.1.length+f.2.length+1≤br l:=by induction l with|nil=>cases h;|cons x r ih=>
 rw[dj];rcases List.mem_cons.1 h with rfl|h;·omega
 ·have:=ih h;omega
theorem dL (p:bB→Bool)(l:List bB):br (l.filter p)≤br l:=by induction l with|nil=>exact Nat.le_refl _;|cons f r ih=>
 rw[List.filter_cons];split;·rw[dj,dj];omega
 ·rw[dj];omega
theorem Fk (l:List bB)(n:Nat):br (l.take n)≤br l:=by induction l generalizing n with|nil=>simp;|cons f r ih=>cases n with|zero=>simp[br];|succ n=>rw[List.take_succ_cons,dj,dj];have:=ih n;omega
theorem cK (p:bB→Bool)(l:List bB):aX ((l.filter p).map (·.2))≤br l:=by induction l with|nil=>exact Nat.le_refl _;|cons f r ih=>
 rw[List.filter_cons,dj];split;·rw[Nw];show(f.2.length+1)+aX _≤_;omega
 ·omega
theorem gT {l:List (List UInt8)}{x:List UInt8}(h:x∈l):x.length+1≤aX l:=by induction l with|nil=>cases h;|cons y r ih=>
 have e:aX (y::r)=y.length+1+aX r:=by simp[aX]
 rw[e];rcases List.mem_cons.1 h with rfl|h;·omega
 ·have:=ih h;omega
theorem li (l:List (List UInt8))(sep:List UInt8)(h:sep.length≤2):(bF l sep).length≤2*aX l:=by unfold bF Lib.join;induction l with|nil=>simp;|cons x r ih=>
 have e:aX (x::r)=x.length+1+aX r:=by simp[aX]
 rw[e];cases r with|nil=>simp;omega;|cons y r=>rw[List.intercalate_cons_cons];simp only[Na];omega
theorem nk {l:List (List UInt8)}{e:List UInt8}(h:e∈cJ l):e.length≤aX l:=by obtain⟨s,hs,he⟩:=List.mem_flatMap.1 h;unfold elF ea at he;obtain⟨t,ht,rfl⟩:=List.mem_map.1 (List.mem_filter.1 he).1;have h1:=fM t;have h2:=dz ht;have h3:=gT hs;omega
def oX (f:bB):List UInt8:=f.1++[58,32]++f.2++[13,10]
def qJ (l:List bB):List UInt8:=if l.all hZ then l.flatMap oX else[]
theorem th (l:List bB):(l.flatMap oX).length≤4*br l:=by induction l with|nil=>simp;|cons f r ih=>rw[dj];simp only[List.flatMap_cons,Na,oX,Nb,Nf];omega
theorem mq (l:List bB):(qJ l).length≤4*br l:=by
 unfold qJ;split;·exact th l
 ·simp
theorem sX (l:List bB)(h:br l≤1000000000):ay (CG G) 125 [.sl 2 (l.map aL)] [.b (l.all hZ)]:=by
 have hl:(l.map aL).length=l.length:=by simp
 have hz:=dE l;refine ay.mk (n:=16) Tryz.func125 rfl rfl rfl (Nat.le_of_ble_eq_true rfl) (ad ?_);apply aA (fun i:Nat=>i≤l.length∧(l.take i).all hZ=true) (fun i=>⟨[(0,.d (.sl 2 (l.map aL))),(3,dI (i:Int))],[],2⟩) (fun i=>l.length-i) 0 ⟨Nat.zero_le _,rfl⟩ [];·exact aF
 ·rintro i ⟨hi,ha⟩;refine ad ?_;refine ae (fun h1=>?_) (fun h1=>?_)
  ·have hi':i<l.length:=by omega
   have hm:=eu (Nr hi');have c1:=zQ l[i] (by omega) (by omega);refine ad (ao i rfl (gq hi') ?_);refine bp c1 (fun b1=>?_) (fun b1=>?_)
   ·repeat'(first|refine ad ?_|refine dk ?_|refine ae (fun _=>?_) (fun _=>?_)|refine aq ?_)
    apply aG (i+1) [] ⟨by omega,iI hi' ha b1⟩ (by omega);exact aF
   ·repeat'(first|refine ad ?_|refine dk ?_|refine ae (fun _=>?_) (fun _=>?_)|refine aq ?_)
    rw[iJ hi' b1];rfl
  ·repeat'(first|refine ad ?_|refine dk ?_|refine ae (fun _=>?_) (fun _=>?_)|refine aq ?_)
   rw[kY (by omega) ha];rfl
theorem Bk (l:List bB)(h:br l≤1000000000):ay (CG G) 126 [.sl 2 (l.map aL)] [.s (qJ l)]:=by
 have hl:(l.map aL).length=l.length:=by simp
 have hz:=dE l;refine ay.mk (n:=33) Tryz.func126 rfl rfl rfl (Nat.le_of_ble_eq_true rfl) (ad ?_);apply aA (fun i:Nat=>i≤l.length∧(l.take i).all hZ=true) (fun i=>⟨[(0,.d (.sl 2 (l.map aL))),(3,.d (.s ((l.take i).flatMap oX))),(4,dI (i:Int))],[],2⟩) (fun i=>l.length-i) 0 ⟨Nat.zero_le _,rfl⟩ [];·exact aF
 ·rintro i ⟨hi,ha⟩;refine ad ?_;refine ae (fun h1=>?_) (fun h1=>?_)
  ·have hi':i<l.length:=by omega
   have hm:=eu (Nr hi');have c1:=zQ l[i] (by omega) (by omega);have hll:=th (l.take i);have hzt:=Fk l i;generalize hacc:(l.take i).flatMap oX=acc at*;refine ad (ad (ao i rfl (gq hi') ?_));refine bp c1 (fun b1=>?_) (fun b1=>?_)
   ·refine ao i rfl (gq hi') (bg (by omega) (bg (by simp;omega) (ao i rfl (gq hi') (bg (by simp;omega) (bg (by simp;omega) ?_)))));repeat'(first|refine ad ?_|refine dk ?_|refine ae (fun _=>?_) (fun _=>?_)|refine aq ?_)
    apply aG (i+1) [] ⟨by omega,iI hi' ha b1⟩ (by omega);((repeat' constructor)<;>(first|refine aI ?_|rfl)<;>first|exact oT|skip);all_goals (rw[nW _ hi',hacc];simp[oX])
   ·repeat'(first|refine ad ?_|refine dk ?_|refine ae (fun _=>?_) (fun _=>?_)|refine aq ?_)
    unfold qJ;rw[iJ hi' b1];rfl
  ·obtain rfl:i=l.length:=by omega
   repeat'(first|refine ad ?_|refine dk ?_|refine ae (fun _=>?_) (fun _=>?_)|refine aq ?_)
   refine aN ?_;unfold qJ;rw[kY (Nat.le_refl _) ha,ND];rfl
def MK (c:UInt8):Bool:=decide (33≤c.toNat∧c.toNat≤126∧c.toNat≠35)
def oP (s:List UInt8):Bool:=s.all MK&&decide (s.head?=some 47)
theorem Bn (s:List UInt8)(hs:s.length≤1000000000):ay (CG G) 160 [.s s] [.b (oP s)]:=by
 refine ay.mk (n:=33) Tryz.func160 rfl rfl rfl (Nat.le_of_ble_eq_true rfl) (ad ?_);apply aA (fun i:Nat=>i≤s.length∧(s.take i).all MK=true) (fun i=>⟨[(0,.d (.s s)),(3,dI (i:Int))],[],2⟩) (fun i=>s.length-i) 0 ⟨Nat.zero_le _,rfl⟩ [];·exact aF
 ·rintro i ⟨hi,ha⟩;refine ad ?_;refine ae (fun h1=>?_) (fun h1=>?_)
  ·have hi':i<s.length:=by omega
   have hg:s[i]?=some s[i]:=No hi';have nx:MK s[i]=true→(s.take (i+1)).all MK=true:=fun h=>iI hi' ha h;have bad:MK s[i]=false→oP s=false:=fun h=>by unfold oP;rw[iJ hi' h];rfl
   unfold MK at nx bad;generalize s[i]=c at*;refine ad (ao i rfl hg ?_);refine ae (fun g1=>?_) (fun g1=>?_)
   ·repeat'(first|refine ad ?_|refine dk ?_|refine ae (fun _=>?_) (fun _=>?_)|refine aq ?_)
    rw[bad (by rw[decide_eq_false (by omega)])];rfl
   ·refine ao i rfl hg ?_;refine ae (fun g2=>?_) (fun g2=>?_)
    ·repeat'(first|refine ad ?_|refine dk ?_|refine ae (fun _=>?_) (fun _=>?_)|refine aq ?_)
     rw[bad (by rw[decide_eq_false (by omega)])];rfl
    ·refine ao i rfl hg ?_;refine ae (fun g3=>?_) (fun g3=>?_)
     ·repeat'(first|refine ad ?_|refine dk ?_|refine ae (fun _=>?_) (fun _=>?_)|refine aq ?_)
      rw[bad (by rw[decide_eq_false (by omega)])];rfl
     ·repeat'(first|refine ad ?_|refine dk ?_|refine ae (fun _=>?_) (fun _=>?_)|refine aq ?_)
      apply aG (i+1) [] ⟨by omega,nx (by rw[decide_eq_true (by omega)])⟩ (by omega);exact aF
  ·have hall:=kY (p:=MK) (by omega) ha;unfold oP;rw[hall];repeat'(first|refine ad ?_|refine dk ?_|refine ae (fun _=>?_) (fun _=>?_)|refine aq ?_)
   ·cases s with|nil=>rename_i h;exact absurd rfl h;|cons c r=>
     refine ao 0 rfl rfl ?_;repeat'(first|refine ad ?_|refine dk ?_|refine ae (fun _=>?_) (fun _=>?_)|refine aq ?_)
     all_goals refine congrArg (fun x=>[D.b x]) ?_
     all_goals symm
     ·rw[decide_eq_true (by simp;exact UInt8.toNat_inj.1 (by have e:((47:UInt8).toNat:Int)=47:=rfl;omega))];rfl
     ·rw[decide_eq_false (by simp;rintro rfl;rename_i h;exact h rfl)];rfl
   ·obtain rfl:s=[]:=by rename_i h;exact Nq.1 h
    rfl
theorem HO (s:List UInt8):ay (CG G) 240 [.s s] [.i .i64 (sR s)]:=by
 unfold sR;refine ay.mk (n:=8) Tryz.func240 rfl rfl rfl (Nat.le_of_ble_eq_true rfl) (ad ?_);refine ae (fun h1=>?_) (fun h1=>?_)
 ·have h1:s=MT:=h1;repeat'(first|refine ad ?_|refine dk ?_|refine ae (fun _=>?_) (fun _=>?_)|refine aq ?_)
  rw[if_pos h1];rfl
 ·have h1:s≠MT:=h1;refine ae (fun h2=>?_) (fun h2=>?_)
  ·have h2:s=MU:=h2;repeat'(first|refine ad ?_|refine dk ?_|refine ae (fun _=>?_) (fun _=>?_)|refine aq ?_)
   rw[if_neg h1,if_pos h2];rfl
  ·have h2:s≠MU:=h2;repeat'(first|refine ad ?_|refine dk ?_|refine ae (fun _=>?_) (fun _=>?_)|refine aq ?_)
   rw[if_neg h1,if_neg h2];rfl
structure eL where
 m:List UInt8
 t:List UInt8
 mi:Int
 fs:List bB
 fr:Bool
 body:List UInt8
def eL.zero:eL:=⟨[],[],0,[],false,[]⟩
def dF (r:eL):List D:=[.s r.m,.s r.t,.i .i64 r.mi,.sl 2 (r.fs.map aL),.b r.fr,.sl 1 (aD r.body)]
def gu (r:eL):D:=.agg (dF r)
def Fj (c:UInt8):Bool:=decide (48≤c.toNat∧c.toNat≤57)
def sw (v:List UInt8):Bool:=decide (v.length=8)&&decide (v.take 5=[72,84,84,80,47])&&Fj (v.getD 5 0)&&decide (v.getD 6 0=46)&&Fj (v.getD 7 0)
def df (s:List UInt8):eL×Int:=match bm 32 s with|[a,b,c]=>if eX a=false∨oP b=false then(.zero,2) else if 0≤sR c then(⟨a,b,sR c,[],false,[]⟩,0) else(.zero,if sw c then 6 else 2)|_=>(.zero,2)
theorem eq46 {c:UInt8}(h:(c.toNat:Int)=46):c=46:=UInt8.toNat_inj.1 (by have e:((46:UInt8).toNat:Int)=46:=rfl;omega)
theorem Gt (s:List UInt8)(hs:s.length≤1000000000):ay (CG G) 225 [.s s] [gu (df s).1,.i .i64 (df s).2]:=by
 have c1:=rP s 32 (by omega);have hm:∀x,x∈bm 32 s→x.length≤1000000000:=fun x hx=>by have:=dz hx;omega
 unfold df;generalize bm 32 s=w at*;unfold bP gu dF at*;have hw:(w.map D.s).length=w.length:=by simp
 by_cases h3:w.length=3;·match w,h3 with
  |[a,b,c],_=>
   have ha:=hm a (by simp);have hb:=hm b (by simp);have hc:=hm c (by simp);have t1:=n9 a (by omega);have t2:=Bn b hb;have t3:=HO c;refine ay.mk (n:=66) Tryz.func225 rfl rfl rfl (Nat.le_of_ble_eq_true rfl) (ah c1 (ad (ai (by simp) (ao 0 rfl rfl ?_))));refine bp t1 (fun b1=>?_) (fun b1=>?_)
   ·refine ao 1 rfl rfl ?_;refine bp t2 (fun b2=>?_) (fun b2=>?_)
    ·refine ao 2 rfl rfl (ad (ah t3 ?_));refine ae (fun g1=>?_) (fun g1=>?_)
     ·refine ao 0 rfl rfl (ao 1 rfl rfl (ah t3 ?_));repeat'(first|refine ad ?_|refine dk ?_|refine ae (fun _=>?_) (fun _=>?_)|refine aq ?_)
      refine aN ?_;simp only[b1,b2,Bool.true_eq_false,or_self,if_false,if_pos g1];rfl
     ·refine ad ?_;have key:∀x:Bool,sw c=x→(match [a,b,c] with|[a,b,c]=>if eX a=false∨oP b=false then(eL.zero,(2:Int)) else if 0≤sR c then(⟨a,b,sR c,[],false,[]⟩,0) else(.zero,if sw c then 6 else 2)|_=>(.zero,2))=(.zero,if x then 6 else 2):=by intro x hx;simp only[b1,b2,hx,Bool.true_eq_false,or_self,if_false,if_neg g1]
      refine ae (fun g2=>?_) (fun g2=>?_)
      ·have h8:c.length=8:=by omega
       have d1:=vQ (c.getD 5 0);have d2:=vQ (c.getD 7 0);refine bnd 5 rfl (by omega) ?_;refine ae (fun g3=>?_) (fun g3=>?_)
       ·have g3:c.take 5=[72,84,84,80,47]:=g3;refine ao 5 rfl (nc 0 (by omega)) ?_;refine bp d1 (fun e1=>?_) (fun e1=>?_)
        ·refine ao 6 rfl (nc 0 (by omega)) ?_;refine ae (fun g4=>?_) (fun g4=>?_)
         ·have g4:=eq46 g4;refine ao 7 rfl (nc 0 (by omega)) ?_;refine bp d2 (fun e2=>?_) (fun e2=>?_)
          ·repeat'(first|refine ad ?_|refine dk ?_|refine ae (fun _=>?_) (fun _=>?_)|refine aq ?_)
           refine aN ?_;rw[key true (by unfold sw Fj;rw[e1,e2,g3,g4,h8];rfl)];rfl
          ·repeat'(first|refine ad ?_|refine dk ?_|refine ae (fun _=>?_) (fun _=>?_)|refine aq ?_)
           refine aN ?_;rw[key false (by unfold sw Fj;rw[e1,e2,g3,g4,h8];rfl)];rfl
         ·have g4:c.getD 6 0≠46:=fun e=>g4 (by rw[e];rfl);repeat'(first|refine ad ?_|refine dk ?_|refine ae (fun _=>?_) (fun _=>?_)|refine aq ?_)
          refine aN ?_;rw[key false (by unfold sw;rw[decide_eq_false g4];simp)];rfl
        ·repeat'(first|refine ad ?_|refine dk ?_|refine ae (fun _=>?_) (fun _=>?_)|refine aq ?_)
         refine aN ?_;rw[key false (by unfold sw Fj;rw[e1];simp)];rfl
       ·have g3:c.take 5≠[72,84,84,80,47]:=g3;repeat'(first|refine ad ?_|refine dk ?_|refine ae (fun _=>?_) (fun _=>?_)|refine aq ?_)
        refine aN ?_;rw[key false (by unfold sw;rw[decide_eq_false g3];simp)];rfl
      ·repeat'(first|refine ad ?_|refine dk ?_|refine ae (fun _=>?_) (fun _=>?_)|refine aq ?_)
       refine aN ?_;rw[key false (by unfold sw;rw[decide_eq_false (by omega)];simp)];rfl
    ·repeat'(first|refine ad ?_|refine dk ?_|refine ae (fun _=>?_) (fun _=>?_)|refine aq ?_)
     refine aN ?_;simp only[b1,b2,or_true,if_true];rfl
   ·repeat'(first|refine ad ?_|refine dk ?_|refine ae (fun _=>?_) (fun _=>?_)|refine aq ?_)
    refine aN ?_;simp only[b1,true_or,if_true];rfl
 ·have e:(match w with
   |[a,b,c]=>if eX a=false∨oP b=false then(eL.zero,(2:Int)) else if 0≤sR c then(⟨a,b,sR c,[],false,[]⟩,0) else(.zero,if sw c then 6 else 2)|_=>(.zero,2))=(.zero,2):=by
   split;·exact absurd rfl h3
   ·rfl
  rw[e];refine ay.mk (n:=66) Tryz.func225 rfl rfl rfl (Nat.le_of_ble_eq_true rfl) (ah c1 (ad (aj (by omega) ?_)));repeat'(first|refine ad ?_|refine dk ?_|refine ae (fun _=>?_) (fun _=>?_)|refine aq ?_)
  rfl
def eU (r:eL):List UInt8:=if eX r.m=false∨oP r.t=false∨r.mi<0∨1<r.mi then[] else r.m++[32]++r.t++[32,72,84,84,80,47,49,46]++aY 10 r.mi
theorem yd (r:eL)(h1:r.m.length≤1000000000)(h2:r.t.length≤1000000000):ay (CG G) 127 [gu r] [.s (eU r)]:=by
 obtain⟨m,t,mi,fs,fr,body⟩:=r;have t1:=n9 m (by simp only at h1;omega);have t2:=Bn t h2;unfold eU;unfold gu dF at*;simp only at*;refine ay.mk (n:=34) Tryz.func127 rfl rfl rfl (Nat.le_of_ble_eq_true rfl) (ad ?_);refine bp t1 (fun b1=>?_) (fun b1=>?_)
 ·refine bp t2 (fun b2=>?_) (fun b2=>?_)
  ·refine ae (fun g1=>?_) (fun g1=>?_)
   ·repeat'(first|refine ad ?_|refine dk ?_|refine ae (fun _=>?_) (fun _=>?_)|refine aq ?_)
    rw[if_pos (.inr (.inr (.inl g1)))];rfl
   ·refine ae (fun g2=>?_) (fun g2=>?_)
    ·repeat'(first|refine ad ?_|refine dk ?_|refine ae (fun _=>?_) (fun _=>?_)|refine aq ?_)
     rw[if_pos (.inr (.inr (.inr g2)))];rfl
    ·have d1:=gw mi ⟨by omega,by omega⟩;have l1:=bv (n:=mi) (by omega);rw[if_neg (by rw[b1,b2];simp;omega)];repeat'(first|refine ad ?_|refine dk ?_|refine ah (d1) ?_|refine bg (by simp;omega) ?_|refine ae (fun _=>?_) (fun _=>?_)|refine aq ?_)
     rfl
  ·repeat'(first|refine ad ?_|refine dk ?_|refine ae (fun _=>?_) (fun _=>?_)|refine aq ?_)
   rw[if_pos (.inr (.inl b2))];rfl
 ·repeat'(first|refine ad ?_|refine dk ?_|refine ae (fun _=>?_) (fun _=>?_)|refine aq ?_)
  rw[if_pos (.inl b1)];rfl
def jo (a:iZ):List UInt8:=if a.st<100∨599<a.st∨a.mi<0∨1<a.mi∨nD a.rs=false then[] else[72,84,84,80,47,49,46]++aY 10 a.mi++[32]++aY 10 a.st++[32]++a.rs
theorem Hp (a:iZ)(h1:a.rs.length≤1000000000):ay (CG G) 124 [eF a] [.s (jo a)]:=by
 obtain⟨st,rs,mi,fs,body⟩:=a;have t1:=F8 rs (by simp only at h1;omega);unfold jo;unfold eF bU at*;simp only at*;refine ay.mk (n:=40) Tryz.func124 rfl rfl rfl (Nat.le_of_ble_eq_true rfl) (ad ?_);refine ae (fun g1=>?_) (fun g1=>?_)
 ·repeat'(first|refine ad ?_|refine dk ?_|refine ae (fun _=>?_) (fun _=>?_)|refine aq ?_)
  rw[if_pos (.inl g1)];rfl
 ·refine ae (fun g2=>?_) (fun g2=>?_)
  ·repeat'(first|refine ad ?_|refine dk ?_|refine ae (fun _=>?_) (fun _=>?_)|refine aq ?_)
   rw[if_pos (.inr (.inl g2))];rfl
  ·refine ae (fun g3=>?_) (fun g3=>?_)
   ·repeat'(first|refine ad ?_|refine dk ?_|refine ae (fun _=>?_) (fun _=>?_)|refine aq ?_)
    rw[if_pos (.inr (.inr (.inl g3)))];rfl
   ·refine ae (fun g4=>?_) (fun g4=>?_)
    ·repeat'(first|refine ad ?_|refine dk ?_|refine ae (fun _=>?_) (fun _=>?_)|refine aq ?_)
     rw[if_pos (.inr (.inr (.inr (.inl g4))))];rfl
    ·refine bp t1 (fun b1=>?_) (fun b1=>?_)
     ·have d1:=gw mi ⟨by omega,by omega⟩;have l1:=bv (n:=mi) (by omega);have d2:=gw st ⟨by omega,by omega⟩;have l2:=bv (n:=st) (by omega);rw[if_neg (by rw[b1];simp;omega)];repeat'(first|refine ad ?_|refine dk ?_|refine ah (d1) ?_|refine ah (d2) ?_|refine bg (by simp;omega) ?_|refine ae (fun _=>?_) (fun _=>?_)|refine aq ?_)
      rfl
     ·repeat'(first|refine ad ?_|refine dk ?_|refine ae (fun _=>?_) (fun _=>?_)|refine aq ?_)
      rw[if_pos (.inr (.inr (.inr (.inr b1))))];rfl
theorem AY (l:List UInt8)(h:l.length≤9223372036854775807):ay (CG G) 209 [.s l] [.s (cz 63 l).1,.s (cz 63 l).2.1]:=by
 refine ay.mk (n:=23) Tryz.func209 rfl rfl rfl (Nat.le_of_ble_eq_true rfl) (ad ?_);apply aA (fun i:Nat=>i≤l.length∧63∉l.take i) (fun i=>⟨[(0,.d (.s l)),(4,dI (i:Int))],[],2⟩) (fun i=>l.length-i) 0 ⟨Nat.zero_le _,by simp⟩ [];·exact aF
 ·rintro i ⟨hi,hn⟩;refine ad ?_;refine ae (fun h1=>?_) (fun h1=>?_)
  ·have hi':i<l.length:=by omega
   refine ad (ao i rfl (x:=l[i]) (by simp[hi']) ?_);refine ae (fun h2=>?_) (fun h2=>?_)
   ·have hc:l[i]=63:=UInt8.toNat_inj.1 (by have h2:((l[i].toNat:Nat):Int)=63:=h2;show l[i].toNat=63;omega);have hid:gy 63 l=some i:=uF (by simp[hi',hc]) hn;have hcf:cz 63 l=(l.take i,l.drop (i+1),true):=by unfold cz;rw[hid]
    refine bnd i rfl (by omega) (ar ⟨by omega,by omega⟩ (bnd (i+1) (by omega) (by omega) ?_));(refine dk ?_;skip);rw[hcf];rfl
   ·have hc:l[i]≠63:=fun e=>h2 (by rw[e];rfl);refine aq ?_;apply aG (i+1) [] ⟨by omega,by
     rw[Nh hi'];intro hm;rcases Np.1 hm with hm|hm;·exact hn hm
     ·simp at hm;exact hc hm.symm⟩ (by omega);exact aF
  ·have hid:gy 63 l=none:=pP.2 (by rw[←Nt (show l.length≤i by omega)];exact hn);have hcf:cz 63 l=(l,[],false):=by unfold cz;rw[hid]
   rw[hcf];rfl
def mz (n:Int):List (Int×List UInt8)→List UInt8|[]=>[69,114,114,111,114]|x::r=>if x.1=n then x.2 else mz n r
def du (n:Int):List UInt8:=mz n wq
theorem nL (n:Int):ay (CG G) 130 [.i .i64 n] [.s (du n)]:=by
 have e:du n=if n=200 then[79,75] else if n=400 then[66,97,100,32,82,101,113,117,101,115,116] else if n=404 then[78,111,116,32,70,111,117,110,100] else if n=405 then[77,101,116,104,111,100,32,78,111,116,32,65,108,108,111,119,101,100] else if n=408 then[82,101,113,117,101,115,116,32,84,105,109,101,111,117,116] else if n=409 then[67,111,110,102,108,105,99,116] else if n=413 then[67,111,110,116,101,110,116,32,84,111,111,32,76,97,114,103,101] else if n=431 then[82,101,113,117,101,115,116,32,72,101,97,100,101,114,32,70,105,101,108,100,115,32,84,111,111,32,76,97,114,103,101] else if n=502 then[66,97,100,32,71,97,116,101,119,97,121] else if n=503 then[83,101,114,118,105,99,101,32,85,110,97,118,97,105,108,97,98,108,101] else if n=504 then[71,97,116,101,119,97,121,32,84,105,109,101,111,117,116] else if n=505 then[72,84,84,80,32,86,101,114,115,105,111,110,32,78,111,116,32,83,117,112,112,111,114,116,101,100] else[69,114,114,111,114]:=by unfold du wq;simp only[mz,eq_comm]
 refine mD 28 Tryz.func130 ?_;rw[e];refine ad ?_;refine ae (fun h=>?_) (fun h=>?_);·rw[if_pos h];rfl
 rw[if_neg h];iterate 10
  refine ae (fun h=>?_) (fun h=>?_);·rw[if_pos h];rfl
  rw[if_neg h]
 refine ae (fun h=>?_) (fun h=>?_);·rw[if_pos h];rfl
 rw[if_neg h];rfl
theorem LU {w:World}{X:Nat→Prop}{z z':Nat}{v:Value}(h:Rd w X (.sl z []) v):Rd w X (.sl z' []) v:=by cases h with|slnil=>exact .slnil z';|sle _ a=>exact .sle z' a _;|sl _ _ blk off len cap arr T fz f hh hX hl hc hw h1 h2=>refine .sl z' [] blk off len cap arr T fz f hh hX hl hc ?_ ?_ ?_<;>intro j<;>simp
theorem ay.conv {f:FuncId}{ds ds' rs:List D}(h:ay (CG G) f ds rs)(hl:ds'.length=ds.length)(hc:∀(j:Nat)(d':D),ds'[j]?=some d'→∃d,ds[j]?=some d∧∀(w:World)(X:Nat→Prop)(v:Value),Rd w X d' v→Rd w X d v):ay (CG G) f ds' rs:=by
 refine⟨h.1,fun w X vs hX hG hlen hr=>h.2 w X vs hX hG (by omega) fun j d v hd hv=>?_⟩;have hj:j<ds'.length:=by rw[hl];exact(Nc.1 hd).1
 obtain⟨d2,h2,h3⟩:=hc j ds'[j] (by simp[hj]);rw[hd] at h2;cases h2;exact h3 w X v (hr j _ v (by simp[hj]) hv)
def AF:List UInt8:=[67,111,110,116,101,110,116,45,84,121,112,101]
def zc:List UInt8:=[67,111,110,116,101,110,116,45,76,101,110,103,116,104]
def sF (ct body:List UInt8):List bB:=[(AF,ct),(zc,aY 10 (body.length:Int))]
def qN (fs:List bB):D:=.sl 2 (fs.map aL)
def vf (code:Int)(fs:List bB)(body:List UInt8):D:=.agg [.i .i64 code,.s (du code),.i .i64 1,qN fs,.sl 1 (aD body)]
theorem JR (code:Int)(ct body:List UInt8)(ex:List bB)(hb:body.length≤4611686018427387904)(he:ex.length≤1000000):ay (CG G) 162 [.i .i64 code,.s ct,.s body,qN ex] [vf code (sF ct body++ex) body]:=by have h1:=gw (body.length:Int) ⟨by omega,by omega⟩;have h2:=nL code;refine ay.mk (n:=26) Tryz.func162 rfl rfl rfl (Nat.le_of_ble_eq_true rfl) (ah h1 (ah h2 (aB (by simp;omega) ?_)));unfold vf qN;rw[Ng];rfl
def eE:List UInt8:=[116,101,120,116,47,112,108,97,105,110]
def om:List UInt8:=[97,112,112,108,105,99,97,116,105,111,110,47,106,115,111,110]
theorem M8 (code:Int)(body:List UInt8)(ex:List bB)(hb:body.length≤4611686018427387904)(he:ex.length≤1000000):ay (CG G) 129 [.i .i64 code,.s body,qN ex] [vf code (sF eE body++ex) body]:=by refine ay.mk (n:=11) Tryz.func129 rfl rfl rfl (Nat.le_of_ble_eq_true rfl) (ah (JR code eE body ex hb he) ?_);rfl
def cO:List UInt8:=[72,69,65,68]
def m8:List UInt8:=[71,69,84]
def xB (cap:Int)(l:List dJ):List dJ:=l.drop (l.length-(max cap 0).toNat)
def qA (ser:Int):Int:=if ser<1000000000 then ser+1 else ser
def m43 (cap ser exc rea:Int)(s b:Bool)(f:List (List UInt8))(l:List dJ):AS:=⟨[(4,.op 16 0 0),(7,.op 17 0 0),(8,.op 18 0 0),(1,dI exc),(2,dI rea)],[(16,some (.box [dI cap,dI (qA ser),.d (o6 l)])),(17,some (.box [.d (.b s),.d (.b b),.d (bP f)])),(18,some (.box [dI 0,dI 0,.nl 6]))],2⟩
theorem add43 (cap ser exc rea:Int)(s b:Bool)(f:List (List UInt8))(l:List dJ)(hl:l.length<68719476736)(hc:0≤cap∧cap≤9223372036854775807)(hs:fT ser):ay (CG G) 164 [lz cap ser l,.i .i64 exc,.i .i64 rea,pe s b f] [lz cap (qA ser) (xB cap (l++[⟨qA ser,exc,rea,s,b,f⟩]))]:=by
 have hlen:(l.map NH).length=l.length:=by simp
 refine mD 39 Tryz.func164 ?_;apply bd (fun _:Unit=>True) (fun _=>m43 cap ser exc rea s b f l)
 ·refine ae (fun h=>?_) (fun h=>?_);·refine ar ⟨by have:=hs.1;omega,by omega⟩ ?_;apply aC () [(16,_),(17,_),(18,_)] trivial;simp only[m43,qA,if_pos h];exact aF
  ·apply aC () [(16,_),(17,_),(18,_)] trivial;simp only[m43,qA,if_neg h];exact aF
 rintro⟨⟩ _;refine aB (by simp;omega) (aB (by simp;omega) ?_);refine dk ?_;refine ar ⟨by simp;omega,by simp;omega⟩ ?_;refine bnd ((l.length+1)-cap.toNat) (by simp;omega) (by simp) ?_;refine congrArg (fun x=>[D.agg [.i .i64 cap,.i .i64 (qA ser),.sl 6 x]]) ?_;have e:(max cap 0).toNat=cap.toNat:=by rw[Int.max_eq_left hc.1]
 simp only[xB,List.map_drop,Ng,e,Na,NA];rfl
def oK (s b:Bool)(f:List (List UInt8)):Bool:=!s&&!b&&decide (f=[])
theorem H5 {β γ:Type}(g:β→γ)(f:List β):decide (((f.map g).length:Int)=0)=decide (f=[]):=by cases f<;>simp;omega
theorem LY (s b:Bool)(f:List (List UInt8)):ay (CG G) 245 [pe s b f] [.b (oK s b f)]:=by
 refine mD 17 Tryz.func245 ?_;cases s<;>cases b;·refine bE (decide (f=[])) (H5 _ f) ?_;exact congrArg (fun x=>[D.b x]) (by simp[oK])
 all_goals exact congrArg (fun x=>[D.b x]) (by simp[oK])
def A8:List UInt8:=[115,97,109,101]
def lp:List UInt8:=[115,116,97,116,117,115]
def wz:List UInt8:=[98,111,100,121]
def iA:List UInt8:=[102,105,101,108,100,58]
def NJ (x:dJ):List (List UInt8):=[fj x.ser,fj x.exc,fj x.rea]
def lS (x:dJ):List (List UInt8):=NJ x++if oK x.st x.bo x.fl then[A8] else[]
def dW (x:dJ):List (List UInt8):=lS x++if x.st then[lp] else[]
def eW (x:dJ):List (List UInt8):=dW x++if x.bo then[wz] else[]
def eT (x:dJ):List (List UInt8):=if x.rea=1 then eW x++x.fl.map (iA++·) else NJ x
def np (x:dJ):List UInt8:=bF (eT x) [32]++[10]
def CL (x:dJ)(t:List UInt8):AS:=⟨[(1,.op 16 0 0),(3,.d (.s t))],[(16,some (.box (x.cells.map .d)))],2⟩
def l45s (x:dJ)(i:Nat):AS:=⟨[(1,.op 16 0 0),(3,.d (.s (bF (eW x++(x.fl.take i).map (iA++·)) [32]))),(4,dI (i:Int))],[(16,some (.box (x.cells.map .d)))],2⟩
theorem fe (ws:List (List UInt8))(w:List UInt8)(h:ws≠[]):bF (ws++[w]) [32]=bF ws [32]++[32]++w:=by rw[lk,if_neg h]
theorem nz (x:dJ):NJ x≠[]:=by simp[NJ]
theorem DQ (x:dJ):dW x≠[]:=by simp[dW,lS,NJ]
theorem tH (x:dJ):eW x≠[]:=by simp[eW,dW,lS,NJ]
theorem join0 (x:dJ):bF (NJ x) [32]=fj x.ser++[32]++fj x.exc++[32]++fj x.rea:=by have e1:NJ x=([]++[fj x.ser]++[fj x.exc])++[fj x.rea]:=rfl;rw[e1,fe _ _ (by simp),fe _ _ (by simp),lk];simp
theorem B7 (x:dJ)(h:x.rea=1)(i:Nat):(bF (eW x++(x.fl.take i).map (iA++·)) [32]).length≤(bF (eT x) [32]).length:=by have:=uu (eT x) [32] ((eW x).length+i);rw[eT,if_pos h,List.take_length_add_append,←List.map_take] at this;rw[eT,if_pos h];exact this
theorem My (x:dJ)(h1:fT x.ser)(h2:fT x.exc)(h3:fT x.rea)(hf:x.fl.length≤1048576)(hj:(bF (eT x) [32]).length≤137438953472)(n1:(fj x.ser).length≤32)(n2:(fj x.exc).length≤32)(n3:(fj x.rea).length≤32):ay (CG G) 235 [NH x] [.s (np x)]:=by
 have hj0:=join0 x;refine ay.mk (n:=57) Tryz.func235 rfl rfl rfl (Nat.le_of_ble_eq_true rfl) (ah (kg _ h1) (bg (by simp;omega) (ah (kg _ h2) (bg (by simp;omega) (bg (by simp;omega) (ah (kg _ h3) (bg (by simp;omega) ?_)))))));refine dk ?_;refine ad ?_;refine ae (fun h=>?_) (fun h=>?_);·refine bg (by simp;omega) ?_;refine congrArg (fun t=>[D.s t]) ?_;simp only[np,eT,if_neg h,hj0]
 have h:x.rea=1:=Decidable.not_not.1 h;refine ad ?_;have hc:=LY x.st x.bo x.fl;have b0:(bF (NJ x) [32]).length≤98:=by rw[hj0];simp;omega
 cases hs:oK x.st x.bo x.fl<;>rw[hs] at hc;case true=>
  refine ah hc (bg (by simp;omega) ?_);refine congrArg (fun t=>[D.s t]) ?_;have hs':=hs;simp only[oK,Bool.and_eq_true,Bool.not_eq_true',decide_eq_true_eq] at hs';have e:eT x=NJ x++[A8]:=by simp only[eT,if_pos h,eW,dW,lS,hs'.1.1,hs'.1.2];rw[hs'.2];simp[oK]
  rw[np,e,fe _ _ (nz x),hj0];simp[A8]
 refine ah hc ?_;have e1:lS x=NJ x:=by simp[lS,hs]
 obtain⟨ser,exc,rea,st,bo,fl⟩:=x;simp only at n1 n2 n3 hj0 h hf;apply bd (fun _:Unit=>True) (fun _=>CL ⟨ser,exc,rea,st,bo,fl⟩ (bF (dW ⟨ser,exc,rea,st,bo,fl⟩) [32]))
 ·cases st
  ·have e2:dW ⟨ser,exc,rea,false,bo,fl⟩=NJ ⟨ser,exc,rea,false,bo,fl⟩:=by simp[dW,e1]
   rw[e2,hj0];apply aC () [(16,_)] trivial;simp only[CL,dJ.cells];exact aF
  ·refine bg (by simp;omega) ?_;have e2:dW ⟨ser,exc,rea,true,bo,fl⟩=NJ ⟨ser,exc,rea,true,bo,fl⟩++[lp]:=by simp[dW,e1]
   rw[e2,fe _ _ (nz _),hj0];apply aC () [(16,_)] trivial;simp only[CL,dJ.cells];((repeat' constructor)<;>(first|refine aI ?_|rfl)<;>first|exact oT|skip);simp[lp]
 rintro⟨⟩ _;have b2:(bF (dW ⟨ser,exc,rea,st,bo,fl⟩) [32]).length≤110:=by
  cases st;·rw[show dW ⟨ser,exc,rea,false,bo,fl⟩=NJ ⟨ser,exc,rea,false,bo,fl⟩ by simp[dW,e1]];omega
  ·rw[show dW ⟨ser,exc,rea,true,bo,fl⟩=NJ ⟨ser,exc,rea,true,bo,fl⟩++[lp] by simp[dW,e1],fe _ _ (nz _)];simp[lp];omega
 apply bd (fun _:Unit=>True) (fun _=>CL ⟨ser,exc,rea,st,bo,fl⟩ (bF (eW ⟨ser,exc,rea,st,bo,fl⟩) [32]))
 ·cases bo
  ·have e2:eW ⟨ser,exc,rea,st,false,fl⟩=dW ⟨ser,exc,rea,st,false,fl⟩:=by simp[eW]
   rw[e2];apply aC () [(16,_)] trivial;simp only[CL,dJ.cells];exact aF
  ·refine bg (by simp;omega) ?_;have e2:eW ⟨ser,exc,rea,st,true,fl⟩=dW ⟨ser,exc,rea,st,true,fl⟩++[wz]:=by simp[eW]
   rw[e2,fe _ _ (DQ _)];apply aC () [(16,_)] trivial;simp only[CL,dJ.cells];((repeat' constructor)<;>(first|refine aI ?_|rfl)<;>first|exact oT|skip);simp[wz]
 rintro⟨⟩ _;refine ad ?_;have hlen:(fl.map D.s).length=fl.length:=by simp
 apply aA (fun i=>i≤fl.length) (l45s ⟨ser,exc,rea,st,bo,fl⟩) (fun i=>fl.length-i) 0 (Nat.zero_le _) [];·exact aF
 intro i hi;refine ad ?_;refine ae (fun h'=>?_) (fun h'=>?_)
 ·have hi':i<fl.length:=by simp at h';omega
  have hp:=B7 ⟨ser,exc,rea,st,bo,fl⟩ h (i+1);have e3:eW ⟨ser,exc,rea,st,bo,fl⟩++(fl.take (i+1)).map (iA++·)=(eW ⟨ser,exc,rea,st,bo,fl⟩++(fl.take i).map (iA++·))++[iA++fl[i]]:=by rw[Nh hi',Ng,List.append_assoc];rfl
  simp only at hp;rw[e3,fe _ _ (by simp[tH])] at hp;have hwf:iA.length=6:=rfl;simp only[Na,Nb,Nf,hwf] at hp;refine ad (bg (by show(bF _ [32]).length+7≤_;simp only;omega) (ao i rfl (x:=.s fl[i]) (by simp[hi']) (bg (by simp only[Na];show(bF _ [32]).length+7+fl[i].length≤_;omega) (ar ⟨by omega,by omega⟩ ?_))));apply aG (i+1) [] (by omega) (by omega);simp only[l45s];rw[e3,fe _ _ (by simp[tH])];((repeat' constructor)<;>(first|refine aI ?_|rfl)<;>first|exact oT|skip);simp[iA]
 ·obtain rfl:i=fl.length:=by simp at h';omega
  have hp:=B7 ⟨ser,exc,rea,st,bo,fl⟩ h fl.length;refine bg (by simp only[Nb,Nf];simp only at hp;omega) ?_;refine congrArg (fun t=>[D.s t]) ?_;simp only[np,eT,if_pos h,Nt (Nat.le_refl _)]
end Go.Proofs.YtgfdbddglhblbaaGreat
