/- A part of the proof of what is stated of the erasing of a mirror. -/
import Derived.Test.YtgfdbddglhblbaaGreatQap
import Derived.Test.YtgfdbddglhblbaaGreatProg
import Derived.Lib.Join
import Derived.Laws.StructEq
import Derived.WalkKit
set_option maxHeartbeats 64000000
namespace Go.Proofs.YtgfdbddglhblbaaGreat
set_option maxRecDepth 100000
open Go.Eng
open Go.RowKit (Below)
attribute [local irreducible] aO
def bF (l:List (List UInt8))(sep:List UInt8):List UInt8:=Lib.join l sep
theorem lk (l:List (List UInt8))(x sep:List UInt8):bF (l++[x]) sep=if l=[] then x else bF l sep++sep++x:=by unfold bF Lib.join;induction l with|nil=>simp[List.intercalate];|cons y l ih=>cases l with|nil=>simp[List.intercalate];|cons z l=>
 simp only[reduceCtorEq,if_false] at ih⊢;have e:∀(r:List (List UInt8)),r≠[]→sep.intercalate (y::r)=y++sep++sep.intercalate r:=by intro r hr;cases r with|nil=>exact absurd rfl hr;|cons a r=>simp[List.intercalate]
 rw[List.cons_append,e _ (by simp),ih,e _ (by simp)];simp
def f59s (l:List (List UInt8))(sep:List UInt8)(i:Nat):AS:=⟨[(0,.d (bP l)),(1,.d (.s sep)),(5,.d (.s (bF (l.take i) sep))),(6,dI (i:Int))],[],1⟩
theorem qS {α:Type}(d:α){l:List α}{i:Nat}(h:i<l.length):l.take (i+1)=l.take i++[l.getD i d]:=by rw[List.take_add_one,No h];simp[h]
theorem uu (l:List (List UInt8))(sep:List UInt8)(i:Nat):(bF (l.take i) sep).length≤(bF l sep).length:=by
 have key:∀(a b:List (List UInt8)),(bF a sep).length≤(bF (a++b) sep).length:=by intro a b;induction b generalizing a with|nil=>simp;|cons x b ih=>
  have:=ih (a++[x]);rw[List.append_assoc,List.singleton_append] at this;refine Nat.le_trans ?_ this;rw[lk];split;·rename_i h;subst h;simp[bF,Lib.join,List.intercalate]
  ·simp only[Na];omega
 have:=key (l.take i) (l.drop i);rwa [NB] at this
theorem xd {l:List (List UInt8)}{i:Nat}(h:i<l.length):(l.map D.s)[i]?=some (.s (l.getD i [])):=by simp[h]
theorem uM (l:List (List UInt8))(sep:List UInt8)(h:l.length≤140737488355328)(h1:(bF l sep).length≤140737488355328):ay (CG G) 194 [bP l,.s sep] [.s (bF l sep)]:=by
 refine ay.mk (n:=25) Tryz.func194 rfl rfl rfl (Nat.le_of_ble_eq_true rfl) (ad ?_);apply aA (fun i=>i≤l.length) (f59s l sep) (fun i=>l.length-i) 0 (Nat.zero_le _) [];·exact aF
 intro i hi;have hml:(l.map D.s).length=l.length:=Nl _;refine ad ?_;refine ae (fun h2=>?_) (fun h2=>?_)
 ·have hi':i<l.length:=by omega
  have hm:=uu l sep (i+1);have hs:=qS [] hi';have hj:=lk (l.take i) (l.getD i []) sep;refine ad (ad ?_);refine ae (fun h3=>?_) (fun h3=>?_)
  ·have hne:l.take i≠[]:=by intro h;have:=congrArg List.length h;rw[Nj,Nf] at this;omega
   rw[if_neg hne,←hs] at hj;have hA:(bF (l.take i) sep).length+sep.length+(l.getD i []).length≤(bF l sep).length:=by rw[hj,Na,Na] at hm;exact hm
   refine bg (by omega) (ao i rfl (xd hi') (bg (by simp only[Na];omega) (ar ⟨by omega,by omega⟩ ?_)));apply aG (i+1) [] (by omega) (by omega);((repeat' constructor)<;>(first|refine aI ?_|rfl)<;>first|exact oT|skip);exact congrArg D.s hj.symm
  ·have h0:i=0:=by omega
   subst h0;rw[List.take_zero,if_pos rfl] at hj;rw[hs,List.take_zero,hj] at hm;refine ao 0 rfl (xd hi') ?_;have z:(bF (l.take 0) sep).length=0:=rfl;refine bg (by rw[z];omega) (ar ⟨by omega,by omega⟩ ?_);apply aG 1 [] (by omega) (by omega);((repeat' constructor)<;>(first|refine aI ?_|rfl)<;>first|exact oT|skip);refine congrArg D.s ?_;rw[hs,List.take_zero,hj];rfl
 ·rw[Nt (by omega)];exact rfl
def CK (l:List (List UInt8)):List UInt8:=([91]++bF l [44])++[93]
theorem KI (l:List (List UInt8))(h:l.length≤140737488355328)(h1:(bF l [44]).length≤140737488355328):ay (CG G) 237 [bP l] [.s (CK l)]:=by refine ay.mk (n:=7) Tryz.func237 rfl rfl rfl (Nat.le_of_ble_eq_true rfl) (ah (uM l [44] h h1) (bg (by simp only[Nb,Nf];omega) (bg (by simp only[Na,Nb,Nf];omega) ?_)));exact rfl
def rl (p:List UInt8×List UInt8):D:=.agg [.s p.1,.s p.2]
def El (l:List (List UInt8×List UInt8)):D:=.sl 2 (l.map rl)
def jS (p:List UInt8×List UInt8):List UInt8:=(eS p.1++[58])++p.2
def uU (l:List (List UInt8×List UInt8)):List UInt8:=([123]++bF (l.map jS) [44])++[125]
theorem ya {l:List (List UInt8×List UInt8)}{i:Nat}(h:i<l.length):(l.map rl)[i]?=some (.agg [.s (l.getD i ([],[])).1,.s (l.getD i ([],[])).2]):=by simp[h,rl]
theorem EB {l:List (List UInt8×List UInt8)}{i:Nat}(h:i<l.length):((l.take i).map jS).map D.s++[.s (jS (l.getD i ([],[])))]=((l.take (i+1)).map jS).map D.s:=by rw[qS ([],[]) h];simp
def f31s (l:List (List UInt8×List UInt8))(i:Nat):AS:=⟨[(0,.d (El l)),(3,.os 16),(4,dI (i:Int))],[(16,some (.buf 1 (((l.take i).map jS).map .s)))],60⟩
set_option maxRecDepth 100000 in theorem Ka (l:List (List UInt8×List UInt8))(h:l.length≤1099511627)(h0:∀p,p∈l→p.1.length≤1099511627∧p.2.length≤140737488355328)(h1:(bF (l.map jS) [44]).length≤140737488355328):ay (CG G) 231 [El l] [.s (uU l)]:=by
 refine mD 31 Tryz.func231 ?_;have hml:(l.map rl).length=l.length:=Nl _;refine ad ?_;apply aA (fun i=>i≤l.length) (f31s l) (fun i=>l.length-i) 0 (Nat.zero_le _) [(16,_)];·exact aF
 intro i hi;refine ad ?_;refine ae (fun h2=>?_) (fun h2=>?_)
 ·have hi':i<l.length:=by omega
  have hp:=h0 (l.getD i ([],[])) (by simp[hi']);have hq:=mt (l.getD i ([],[])).1;have hql:(eS (l.getD i ([],[])).1).length=(qb (l.getD i ([],[])).1).length+2:=by unfold eS;simp
  refine ad (ao i rfl (ya hi') (ah (vN _ (by omega)) (bg (by rw[hql];simp only[Nb,Nf];omega) (ao i rfl (ya hi') (bg (by rw[Na,hql];simp only[Nb,Nf];omega) (aB (by simp only[Nl,Nj,Nb,Nf];omega) (And.intro (dY (by kernel_rfl)) (ar ⟨by omega,by omega⟩ ?_))))))));apply aG (i+1) [(16,_)] (by omega) (by omega);((repeat' constructor)<;>(first|refine aI ?_|rfl)<;>first|exact oT|skip);exact EB hi'
 ·rw[Nt (by omega)];refine ah (uM (l.map jS) [44] (by rw[Nl];omega) h1) (bg (by simp only[Nb,Nf];omega) (bg (by simp only[Na,Nb,Nf];omega) ?_));exact rfl
end Go.Proofs.YtgfdbddglhblbaaGreat
namespace Go.Proofs.YtgfdbddglhblbaaGreat
open Go.Eng
attribute [local irreducible] aO
set_option maxRecDepth 100000
def jP (n:Int):Int:=IntKind.u32.wrap n
theorem Ds (x y:Int):cF .or .u32 x y=cF .or .u32 y x:=by unfold cF;rw[BitVec.or_comm]
def ly (x:Int)(n:Nat):Int:=cF .or .u32 (jP (x*2^(32-n))) (x.fdiv (2^n))
def ky (x y:Int):Int:=cF .xor .u32 x y
def xf (x y:Int):Int:=cF .and .u32 x y
def Lb (x y:Int):Int:=cF .or .u32 x y
def not32 (x:Int):Int:=cF .xor .u32 IntKind.u32.max x
def Kq (x:Int)(n:Nat):Int:=x.fdiv (2^n)
def LK:List Nat:=[2,6,7,11,13,17,18,19,22,25]
theorem Jf:∀n,n∈LK→cF .and .u64 (IntKind.u64.wrap (-(n:Int))) 31=((32-n:Nat):Int)∧IntKind.u64.wrap (32-((32-n:Nat):Int))=(n:Int)∧(1≤n∧n≤31):=by decide+kernel
theorem E5 (x:Int)(n:Nat)(hn:n∈LK):ay (CG G) 188 [.i .u32 x,.i .i64 (n:Int)] [.i .u32 (ly x n)]:=by obtain⟨_,_,h3⟩:=Jf n hn;refine ay.mk (n:=13) Tryz.func188 rfl rfl rfl (Nat.le_of_ble_eq_true rfl) (And.intro (by omega) (ar ⟨by omega,by omega⟩ (And.intro (by omega) (cY (dk ?_)))));refine congrArg (fun r=>[D.i .u32 r]) ?_;rw[Ds];unfold ly jP;rw[show min ((32:Int)-n).toNat IntKind.u32.bits=32-n by simp only[IntKind.bits];omega,show min ((n:Nat):Int).toNat IntKind.u32.bits=n by simp only[IntKind.bits];omega]
theorem iw (x:Int)(n:Nat)(m:Int)(hm:m=(n:Int))(hn:n∈LK):ay (CG G) 188 [.i .u32 x,.i .i64 m] [.i .u32 (ly x n)]:=by rw[hm];exact E5 x n hn
end Go.Proofs.YtgfdbddglhblbaaGreat
namespace Go.Proofs.YtgfdbddglhblbaaGreat
open Go.Eng
attribute [local irreducible] aO
set_option maxRecDepth 100000
def mJ (b:List UInt8)(i:Nat):Int:=((b.getD i 0).toNat:Int)
def Km (b:List UInt8)(i:Nat):Int:=Lb (Lb (Lb (jP (mJ b (4*i)*2^24)) (jP (mJ b (4*i+1)*2^16))) (jP (mJ b (4*i+2)*2^8))) (mJ b (4*i+3))
def wA (b:List UInt8):Nat→List Int|0=>List.replicate 64 0|i+1=>(wA b i).set i (Km b i)
def sig0 (x:Int):Int:=ky (ky (ly x 7) (ly x 18)) (Kq x 3)
def sig1 (x:Int):Int:=ky (ky (ly x 17) (ly x 19)) (Kq x 10)
def KL (w:List Int)(i:Nat):Int:=jP (jP (jP (w.getD (i-16) 0+sig0 (w.getD (i-15) 0))+w.getD (i-7) 0)+sig1 (w.getD (i-2) 0))
def wM (w:List Int):Nat→List Int|0=>w|i+1=>(wM w i).set (16+i) (KL (wM w i) (16+i))
def tf (b:List UInt8):List Int:=wM (wA b 16) 48
theorem vr (b:List UInt8):∀i,(wA b i).length=64|0=>by simp[wA];|i+1=>by rw[wA,List.length_set,vr b i]
theorem AB (w:List Int)(h:w.length=64):∀i,(wM w i).length=64|0=>h|i+1=>by rw[wM,List.length_set,AB w h i]
theorem Dk (b:List UInt8):(tf b).length=64:=AB _ (vr b 16) 48
theorem rI {l:List Int}{i:Nat}(h:i<l.length):(l.map (D.i .u32))[i]?=some (.i .u32 (l.getD i 0)):=by simp[h,List.getD]
theorem H7 {l:List UInt8}{i:Nat}(h:i<l.length):(aD l)[i]?=some (.i .u8 (mJ l i)):=by unfold mJ aD;simp[h,List.getD]
theorem mr (b:List UInt8)(i:Nat):0≤mJ b i∧mJ b i≤255:=by unfold mJ;have:=(b.getD i 0).toNat_lt;omega
theorem Mi (w:List Int)(j:Nat):((wM w j).map (D.i .u32)).set (16+j) (.i .u32 (KL (wM w j) (16+j)))=(wM w (j+1)).map (.i .u32):=by rw[wM,List.map_set]
theorem MC (b:List UInt8)(i:Nat):((wA b i).map (D.i .u32)).set i (.i .u32 (Km b i))=(wA b (i+1)).map (.i .u32):=by rw[wA,List.map_set]
attribute [local irreducible] wM wA ly cF
end Go.Proofs.YtgfdbddglhblbaaGreat
namespace Go.Proofs.YtgfdbddglhblbaaGreat
open Go.Eng
attribute [local irreducible] aO
set_option maxRecDepth 100000
structure St where
 x0:Int
 x1:Int
 x2:Int
 x3:Int
 x4:Int
 x5:Int
 x6:Int
 x7:Int
def St.l (s:St):List Int:=[s.x0,s.x1,s.x2,s.x3,s.x4,s.x5,s.x6,s.x7]
def stD (s:St):D:=.agg (s.l.map (.i .u32))
def bigS1 (e:Int):Int:=ky (ky (ly e 6) (ly e 11)) (ly e 25)
def KE (e:Int):Int:=ky (ky (ly e 2) (ly e 13)) (ly e 22)
def chF (e f g:Int):Int:=ky (xf e f) (xf (not32 e) g)
def majF (a b c:Int):Int:=ky (ky (xf a b) (xf a c)) (xf b c)
def I8 (s:St)(k w:Int):Int:=jP (jP (jP (jP (s.x7+bigS1 s.x4)+chF s.x4 s.x5 s.x6)+k)+w)
def rnd (s:St)(k w:Int):St:=⟨jP (jP (I8 s k w+KE s.x0)+majF s.x0 s.x1 s.x2),s.x0,s.x1,s.x2,jP (s.x3+I8 s k w),s.x4,s.x5,s.x6⟩
def sG (W:List Int)(s:St):Nat→St|0=>s|i+1=>rnd (sG W s i) (uL.getD i 0) (W.getD i 0)
def F7 (s t:St):St:=⟨jP (s.x0+t.x0),jP (s.x1+t.x1),jP (s.x2+t.x2),jP (s.x3+t.x3),jP (s.x4+t.x4),jP (s.x5+t.x5),jP (s.x6+t.x6),jP (s.x7+t.x7)⟩
def AJ (s:St)(b:List UInt8):St:=F7 (sG (tf b) s 64) s
def lO (s t:List Int):Nat→List Int|0=>s|i+1=>(lO s t i).set i (jP ((lO s t i).getD i 0+t.getD i 0))
theorem wT (s t:List Int):∀i,(lO s t i).length=s.length|0=>rfl|i+1=>by rw[lO,List.length_set,wT s t i]
theorem Em (s t:St):lO s.l t.l 8=(F7 s t).l:=rfl
theorem Eg (s t:List Int)(i:Nat):((lO s t i).map (D.i .u32)).set i (.i .u32 (jP ((lO s t i).getD i 0+t.getD i 0)))=(lO s t (i+1)).map (.i .u32):=by rw[lO,List.map_set]
theorem CY (W:List Int)(s:St)(i:Nat):sG W s (i+1)=rnd (sG W s i) (uL.getD i 0) (W.getD i 0):=rfl
theorem Jy {ds:List D}{n m:Nat}{K:List D→Prop}(s:St)(h:s.l.map (D.i .u32)=ds)(hn:8=n)(hm:8=m)(h1:K (s.l.map (.i .u32))):BH ds n 1 m K:=by subst h;exact rQ hn hm h1
theorem Bx (a b:Int):jP (jP a+b)=jP (a+b):=by unfold jP IntKind.wrap;simp only[IntKind.signed,Bool.false_and,Bool.false_eq_true,if_false];rw[Int.emod_add_emod]
theorem DU (t a b:Int):jP (t+jP (a+b))=jP (jP (t+a)+b):=by rw[Bx,Int.add_comm t (jP (a+b)),Bx];congr 1;omega
theorem Dx (s t:St):F7 s t=F7 t s:=by unfold F7;simp only[Int.add_comm]
def zs8:List Int:=List.replicate 8 0
attribute [local irreducible] sG wM wA ly cF tf lO
end Go.Proofs.YtgfdbddglhblbaaGreat
namespace Go.Proofs.YtgfdbddglhblbaaGreat
open Go.Eng
attribute [local irreducible] aO
set_option maxRecDepth 100000
theorem F2 {k:IntKind}{ds:List D}{n m:Nat}{K:List D→Prop}(l:List Int)(h:l.map (D.i k)=ds)(hl:l.length=n)(hm:l.length=m)(h1:K (l.map (.i k))):BH ds n 1 m K:=by subst h;exact rQ hl hm h1
theorem HU:ay (CG G) 189 [] [.agg (uL.map (.i .u32))]:=by refine ay.mk (n:=2) Tryz.func189 rfl rfl rfl (Nat.le_of_ble_eq_true rfl) (F2 uL rfl rfl rfl (mI (l:=uL) rfl ?_));rfl
def DT:St:=⟨1779033703,3144134277,1013904242,2773480762,1359893119,2600822924,528734635,1541459225⟩
theorem MW:ay (CG G) 166 [] [stD DT]:=by refine ay.mk (n:=2) Tryz.func166 rfl rfl rfl (Nat.le_of_ble_eq_true rfl) (F2 DT.l rfl rfl rfl (mI (l:=DT.l) rfl ?_));rfl
def M3 (s:St)(k w:Int):St:=⟨jP (I8 s k w+jP (KE s.x0+majF s.x0 s.x1 s.x2)),s.x0,s.x1,s.x2,jP (s.x3+I8 s k w),s.x4,s.x5,s.x6⟩
theorem Iv (s:St)(k w:Int):M3 s k w=rnd s k w:=by unfold M3 rnd;rw[DU]
theorem EC (b:List UInt8):wM (wA b 16) 48=tf b:=rfl
attribute [local irreducible] sG wM wA ly cF tf lO
theorem H8 (s:St)(b:List UInt8)(hb:b.length=64):ay (CG G) 153 [stD s,.sl 1 (aD b)] [stD (AJ s b)]:=by
 have hbl:(aD b).length=64:=by rw[aK,hb]
 have c1:=HU;have hW:=Dk b;unfold AJ stD;rw[Dx];refine ay.mk (n:=196) Tryz.func153 rfl rfl rfl (Nat.le_of_ble_eq_true rfl) (ad ?_);apply aA (fun i:Nat=>i≤16) (fun i=>⟨[(1,.d (.sl 1 (aD b))),(2,.op 16 0 0),(4,.op 17 0 0),(5,.op 18 0 0),(6,dI (i:Int))],[(16,some (.arr 1 (s.l.map (.i .u32)))),(17,some (.arr 1 (zs8.map (.i .u32)))),(18,some (.arr 1 ((wA b i).map (.i .u32))))],2⟩) (fun i=>16-i) 0 (Nat.zero_le _) [(16,_),(17,_),(18,_)];·((repeat' constructor)<;>(first|refine aI ?_|rfl)<;>first|exact oT|skip);all_goals (first|rfl|(unfold wA;rfl))
 ·intro i hi;have hwl:=vr b i;have hwm:((wA b i).map (D.i .u32)).length=64:=by rw[Nl,hwl]
  refine ad ?_;refine ae (fun h1=>?_) (fun h1=>?_)
  ·have hi':i<16:=by omega
   have y0:=mr b (4*i);have y1:=mr b (4*i+1);have y2:=mr b (4*i+2);have y3:=mr b (4*i+3);refine ad (ar ⟨by omega,by omega⟩ (ao (4*i) (by omega) (H7 (by omega)) (Bp ⟨by omega,by omega⟩ (And.intro (by omega) (cY (ar ⟨by omega,by omega⟩ (ar ⟨by omega,by omega⟩ (ao (4*i+1) (by omega) (H7 (by omega)) (Bp ⟨by omega,by omega⟩ (And.intro (by omega) (cY (ar ⟨by omega,by omega⟩ (ar ⟨by omega,by omega⟩ ?_)))))))))))));refine ao (4*i+2) (by omega) (H7 (by omega)) (Bp ⟨by omega,by omega⟩ (And.intro (by omega) (cY (ar ⟨by omega,by omega⟩ (ar ⟨by omega,by omega⟩ (ao (4*i+3) (by omega) (H7 (by omega)) (Bp ⟨by omega,by omega⟩ (bL hwm.symm (bh i rfl (by omega) (ax (rI (by omega)) (dk (ar ⟨by omega,by omega⟩ ?_))))))))))));apply aG (i+1) [(16,16),(17,17),(18,18)] (by omega) (by omega);((repeat' constructor)<;>(first|refine aI ?_|rfl)<;>first|exact oT|skip);all_goals exact MC _ _
  ·obtain rfl:i=16:=by omega
   have hz:(wA b 16).length=64:=vr b 16;refine ad ?_;apply aA (fun j:Nat=>j≤48) (fun j=>⟨[(2,.op 16 0 0),(4,.op 17 0 0),(5,.op 18 0 0),(7,dI ((16+j:Nat):Int))],[(16,some (.arr 1 (s.l.map (.i .u32)))),(17,some (.arr 1 (zs8.map (.i .u32)))),(18,some (.arr 1 ((wM (wA b 16) j).map (.i .u32))))],2⟩) (fun j=>48-j) 0 (Nat.zero_le _) [(16,16),(17,17),(18,18)];·((repeat' constructor)<;>(first|refine aI ?_|rfl)<;>first|exact oT|skip);all_goals (unfold wM;rfl)
   ·intro j hj;have hwl:=AB (wA b 16) hz j;have hwm:((wM (wA b 16) j).map (D.i .u32)).length=64:=by rw[Nl,hwl]
    refine ad ?_;refine ae (fun h2=>?_) (fun h2=>?_)
    ·have hj':j<48:=by omega
     refine ad (ar ⟨by omega,by omega⟩ (bL hwm.symm (bh (16+j-15) (by omega) (by omega) (az (rI (by omega)) (ar ⟨by omega,by omega⟩ (bL hwm.symm (bh (16+j-2) (by omega) (by omega) (az (rI (by omega)) (dk (ar ⟨by omega,by omega⟩ (bL hwm.symm ?_)))))))))));refine bh (16+j-16) (by omega) (by omega) (az (rI (by omega)) (ah (iw _ 7 (7) rfl (by decide)) (ah (iw _ 18 (18) rfl (by decide)) (And.intro (by decide) (cY (ar ⟨by omega,by omega⟩ (bL hwm.symm (bh (16+j-7) (by omega) (by omega) (az (rI (by omega)) (cY (ah (iw _ 17 (17) rfl (by decide)) ?_)))))))))));refine ah (iw _ 19 (19) rfl (by decide)) (And.intro (by decide) (cY (bL hwm.symm (bh (16+j) rfl (by omega) (ax (rI (by omega)) (dk (ar ⟨by omega,by omega⟩ ?_)))))));apply aG (j+1) [(16,16),(17,17),(18,18)] (by omega) (by omega);((repeat' constructor)<;>(first|refine aI ?_|rfl)<;>first|exact oT|skip);all_goals exact Mi _ _
    ·obtain rfl:j=48:=by omega
     rw[EC];generalize tf b=W at hW;have hWm:(W.map (D.i .u32)).length=64:=by rw[Nl,hW]
     refine mI (l:=s.l) rfl (ah c1 (rQ (l:=s.l) rfl rfl (rQ (l:=uL) rfl rfl (dk (ad ?_)))));apply aA (fun i:Nat=>i≤64) (fun i=>⟨[(2,.op 16 0 0),(4,.op 17 0 0),(5,.op 18 0 0),(10,.op 19 0 0),(11,.op 20 0 0),(12,dI (i:Int))],[(16,some (.arr 1 (s.l.map (.i .u32)))),(17,some (.arr 1 (zs8.map (.i .u32)))),(18,some (.arr 1 (W.map (.i .u32)))),(19,some (.arr 1 ((sG W s i).l.map (.i .u32)))),(20,some (.arr 1 (uL.map (.i .u32))))],2⟩) (fun i=>64-i) 0 (Nat.zero_le _) [(16,16),(17,17),(18,18),(19,_),(20,_)];·((repeat' constructor)<;>(first|refine aI ?_|rfl)<;>first|exact oT|skip);all_goals (unfold sG;rfl)
     ·intro i hi;refine ad ?_;refine ae (fun h3=>?_) (fun h3=>?_)
      ·have hi':i<64:=by omega
       have hrs:=CY W s i;generalize hR:sG W s i=R at hrs;rw[←Iv] at hrs;refine ad (bL rfl (bh 4 rfl (by decide) (az rfl (bL rfl (bh 0 rfl (by decide) (az rfl (dk (bL rfl (bh 7 rfl (by decide) (az rfl (ah (iw _ 6 (6) rfl (by decide)) ?_)))))))))));refine ah (iw _ 11 (11) rfl (by decide)) (ah (iw _ 25 (25) rfl (by decide)) (cY (bL rfl (bh 5 rfl (by decide) (az rfl (bL rfl (bh 6 rfl (by decide) (az rfl (cY (bL rfl (bh i rfl (by omega) ?_)))))))))));refine az (rI (l:=uL) hi') (cY (bL hWm.symm (bh i rfl (by omega) (az (rI (by omega)) (cY (dk (ah (iw _ 2 (2) rfl (by decide)) (ah (iw _ 13 (13) rfl (by decide)) (ah (iw _ 22 (22) rfl (by decide)) (bL rfl (bh 1 rfl (by decide) ?_)))))))))));refine az rfl (bL rfl (bh 2 rfl (by decide) (az rfl (bL rfl (bh 1 rfl (by decide) (az rfl (bL rfl (bh 2 rfl (by decide) (az rfl (cY (dk ?_)))))))))));refine cY (bL rfl (bh 0 rfl (by decide) (az rfl (bL rfl (bh 1 rfl (by decide) (az rfl (bL rfl (bh 2 rfl (by decide) (az rfl (bL rfl (bh 3 rfl (by decide) ?_)))))))))));refine az rfl (cY (bL rfl (bh 4 rfl (by decide) (az rfl (bL rfl (bh 5 rfl (by decide) (az rfl (bL rfl (bh 6 rfl (by decide) (az rfl (Jy (M3 R (uL.getD i 0) (W.getD i 0)) rfl rfl rfl ?_)))))))))));refine aq ?_;apply aG (i+1) [(16,16),(17,17),(18,18),(19,19),(20,20)] (by omega) (by omega);((repeat' constructor)<;>(first|refine aI ?_|rfl)<;>first|exact oT|skip);all_goals rw[hrs]
      ·obtain rfl:i=64:=by omega
       generalize sG W s 64=R;refine ad ?_;apply aA (fun i:Nat=>i≤8) (fun i=>⟨[(2,.op 16 0 0),(4,.op 17 0 0),(10,.op 19 0 0),(17,dI (i:Int))],[(16,some (.arr 1 ((lO s.l R.l i).map (.i .u32)))),(17,some (.arr 1 (zs8.map (.i .u32)))),(19,some (.arr 1 (R.l.map (.i .u32))))],2⟩) (fun i=>8-i) 0 (Nat.zero_le _) [(16,16),(17,17),(19,19)];·((repeat' constructor)<;>(first|refine aI ?_|rfl)<;>first|exact oT|skip);all_goals (unfold lO;rfl)
       ·intro i hi;have hal:(lO s.l R.l i).length=8:=wT _ _ i;have ham:((lO s.l R.l i).map (D.i .u32)).length=8:=by rw[Nl,hal]
        refine ad ?_;refine ae (fun h4=>?_) (fun h4=>?_)
        ·have hi':i<8:=by omega
         refine ad (bL ham.symm (bh i rfl (by omega) (az (rI (by omega)) (bL rfl (bh i rfl (by omega) (az (rI (l:=R.l) hi') (cY (bL ham.symm (bh i rfl (by omega) (ax (rI (by omega)) (dk ?_)))))))))));refine aq ?_;apply aG (i+1) [(16,16),(17,17),(19,19)] (by omega) (by omega);((repeat' constructor)<;>(first|refine aI ?_|rfl)<;>first|exact oT|skip);all_goals exact Eg _ _ _
        ·obtain rfl:i=8:=by omega
         refine mI hal (rQ hal hal (mI hal ?_));rw[←Em];rfl
end Go.Proofs.YtgfdbddglhblbaaGreat
namespace Go.Proofs.YtgfdbddglhblbaaGreat
open Go.Eng
attribute [local irreducible] aO
set_option maxRecDepth 100000
def ed (s:St)(b:List UInt8):Nat→St|0=>s|k+1=>AJ (ed s b k) ((b.drop (64*k)).take 64)
def Mu (s:St)(n:Int)(t:List UInt8):D:=.agg [.i .u32 s.x0,.i .u32 s.x1,.i .u32 s.x2,.i .u32 s.x3,.i .u32 s.x4,.i .u32 s.x5,.i .u32 s.x6,.i .u32 s.x7,.i .i64 n,.sl 1 (aD t)]
theorem ww (s:St)(b:List UInt8)(k:Nat):ed s b (k+1)=AJ (ed s b k) ((b.drop (64*k)).take 64):=rfl
theorem xw (s:St)(b:List UInt8):ed s b 0=s:=rfl
attribute [local irreducible] ed AJ
end Go.Proofs.YtgfdbddglhblbaaGreat
namespace Go.Proofs.YtgfdbddglhblbaaGreat
open Go.Eng
attribute [local irreducible] aO
set_option maxRecDepth 100000
def rV (v:Int):UInt8:=UInt8.ofNat (v%256).toNat
theorem aV (v:Int):IntKind.u8.wrap v=((rV v).toNat:Int):=by unfold rV IntKind.wrap;simp only[IntKind.signed,Bool.false_and,Bool.false_eq_true,if_false];rw[show ((2:Int)^IntKind.u8.bits)=256 by decide];have h1:=Int.emod_nonneg v (show(256:Int)≠0 by decide);have h2:=Int.emod_lt_of_pos v (show(0:Int)<256 by decide);rw[UInt8.toNat_ofNat',Nat.mod_eq_of_lt (by omega),Int.toNat_of_nonneg h1]
def gh (x:Int):List UInt8:=[rV (x.fdiv (2^24)),rV (x.fdiv (2^16)),rV (x.fdiv (2^8)),rV x]
def outF (s:St):List UInt8:=s.l.flatMap gh
def lQ (t:Nat):Nat:=(119-t%64)%64
theorem y5 (i:Nat):List.replicate (i+1) (0:UInt8)=List.replicate i 0++[0]:=List.replicate_succ'
theorem FY {s:St}{j:Nat}(h:j<8):(s.l.take (j+1)).flatMap gh=(s.l.take j).flatMap gh++gh (s.l.getD j 0):=by have hl:s.l.length=8:=rfl;rw[Nh (by omega),List.flatMap_append];simp[List.getD,hl,h]
theorem fX (s:St){j:Nat}(h:j<8):aD ((s.l.take j).flatMap gh)++(aD (gh (s.l.getD j 0)))=aD ((s.l.take (j+1)).flatMap gh):=by rw[FY h,←cU]
theorem IM (s:St)(j:Nat):((s.l.take j).flatMap gh).length≤32:=by
 have:∀l:List Int,(l.flatMap gh).length=l.length*4:=fun l=>by induction l with|nil=>rfl;|cons x r ih=>rw[List.flatMap_cons,Na,ih,Nb];simp[gh];omega
 rw[this,Nj];have:s.l.length=8:=rfl;omega
attribute [local irreducible] ed AJ lQ
theorem Bq (t i:Nat)(hi:i≤lQ t):((t+(1+i))%64=56↔i=lQ t)∧lQ t<64:=by unfold lQ at*;omega
end Go.Proofs.YtgfdbddglhblbaaGreat
namespace Go.Proofs.YtgfdbddglhblbaaGreat
open Go.Eng
attribute [local irreducible] aO
set_option maxRecDepth 100000
theorem jD (s:List UInt8):(eS s).length≤6*s.length+2:=by have:=mt s;unfold eS;simp only[Na,Nb,Nf];omega
structure dJ where
 ser:Int
 exc:Int
 rea:Int
 st:Bool
 bo:Bool
 fl:List (List UInt8)
def dJ.cells (x:dJ):List D:=[.i .i64 x.ser,.i .i64 x.exc,.i .i64 x.rea,.b x.st,.b x.bo,bP x.fl]
def NH (x:dJ):D:=.agg [.i .i64 x.ser,.i .i64 x.exc,.i .i64 x.rea,.b x.st,.b x.bo,bP x.fl]
def pe (s b:Bool)(f:List (List UInt8)):D:=.agg [.b s,.b b,bP f]
def o6 (l:List dJ):D:=.sl 6 (l.map NH)
def lz (cap ser:Int)(l:List dJ):D:=.agg [.i .i64 cap,.i .i64 ser,o6 l]
theorem Iw (l:List (List UInt8))(h:l.length≤68719476736):ay (CG G) 30 [bP l] [bP l]:=by
 refine ay.mk (n:=8) Tryz.func30 rfl rfl rfl (Nat.le_of_ble_eq_true rfl) (ad ?_);refine pN (fun h0=>?_) (fun h0=>?_)
 ·obtain rfl:l=[]:=List.map_eq_nil_iff.1 h0;refine Lh ?_ ?_;·rfl
  ·refine aB (by simp) ?_;rfl
 ·refine aB (by simpa using h) ?_;rfl
def mS (n:Int):Int:=min (max n 0) 10000
theorem new65 (n:Int):ay (CG G) 53 [.i .i64 n] [lz (mS n) 0 []]:=by refine mD 7 Tryz.func53 ?_;rfl
theorem B1 (b:Bool):ay (CG G) 236 [.b b] [.s (if b then[116,114,117,101] else[102,97,108,115,101])]:=by
 refine mD 4 Tryz.func236 ?_;cases b;·refine ad ?_;rfl
 ·refine ad ?_;rfl
theorem cut51 (l:List Int)(n:Nat):ay (CG G) 22 [ft l,.i .i64 (n:Int)] [ft (l.take n)]:=by
 refine mD 13 Tryz.func22 ?_;have hlen:(l.map (D.i .i64)).length=l.length:=by simp
 refine ad ?_;refine ae (fun h1=>?_) (fun h1=>?_);·refine bnd n rfl (by omega) ?_;refine congrArg (fun x=>[D.sl 1 x]) ?_;simp[List.map_take]
 ·refine congrArg (fun x=>[D.sl 1 x]) ?_;rw[Nt (by omega)]
def bQ (l:List Int)(i:Nat):Nat:=if i<l.length then i+1 else i
def aE (l:List Int)(i:Nat):List (Nat×Option aS):=[(0,some (.box [.d (ft l),dI (i:Int)]))]
theorem Mg (l:List Int)(i:Nat):aH (CG G) 48 [.op 0 0 0] (aE l i) [.d (.b (decide ((i:Int)<(l.length:Int))))] (aE l i):=by
 refine mH 13 Tryz.func48 ?_;have hlen:(l.map (D.i .i64)).length=l.length:=by simp
 refine bE (decide ((i:Int)<(l.length:Int))) (by rw[hlen]) ?_;refine dk ?_;refine aw [] ?_;exact aF
def wiV (x n:Int):Nat:=((x.tmod n+n).tmod n).toNat
theorem Ly (x n:Int)(hn:1≤n):(wiV x n:Int)<n:=by
 have h3:0≤(x.tmod n+n).tmod n:=by have h1:-n<x.tmod n:=Int.lt_tmod_of_pos x (by omega);exact Int.tmod_nonneg _ (by omega)
 have h4:(x.tmod n+n).tmod n<n:=Int.tmod_lt_of_pos _ (by omega);unfold wiV;omega
theorem HZ (x n:Int)(hn:1≤n∧n≤4611686018427387904):ay (CG G) 8 [.i .i64 x,.i .i64 n] [.i .i64 (wiV x n:Int)]:=by have h1:-n<x.tmod n:=Int.lt_tmod_of_pos x (by omega);have h2:x.tmod n<n:=Int.tmod_lt_of_pos x (by omega);have h3:0≤(x.tmod n+n).tmod n:=Int.tmod_nonneg _ (by omega);unfold wiV;rw[Int.toNat_of_nonneg h3];refine ay.mk (n:=12) Tryz.func8 rfl rfl rfl (Nat.le_of_ble_eq_true rfl) (eV (by omega) (ar ⟨by omega,by omega⟩ (eV (by omega) ?_)));exact rfl
def i0 (l:List Int)(i:Nat)(n:Int):Nat:=if i<l.length then wiV (l.getD i 0) n else 0
theorem cB (l:List Int)(i:Nat)(n:Int)(hn:1≤n):(i0 l i n:Int)<n:=by
 unfold i0;split;·exact Ly _ _ hn
 ·simp;omega
theorem ip (l:List Int)(i:Nat)(n:Int)(hi:i≤l.length)(hl:l.length≤9223372036854775807)(hn:1≤n∧n≤4611686018427387904):aH (CG G) 42 [.op 0 0 0,dI n] (aE l i) [dI (i0 l i n:Int)] (aE l (bQ l i)):=by
 have hlen:(l.map (D.i .i64)).length=l.length:=by simp
 by_cases h:i<l.length;·refine aH.mk (n:=35) Tryz.func42 rfl rfl rfl (Nat.le_of_ble_eq_true rfl) rfl (ad (ai (by omega) ?_));refine dk ?_;refine ar ⟨by omega,by omega⟩ (ar ⟨by omega,by omega⟩ (ao i (by omega) (gC h) (ah (HZ _ n hn) ?_)));refine dk ?_;refine aw [] ?_;simp only[bQ,i0,if_pos h];exact aF
 ·refine aH.mk (n:=35) Tryz.func42 rfl rfl rfl (Nat.le_of_ble_eq_true rfl) rfl (ad (aj (by omega) ?_));refine dk ?_;refine aw [] ?_;simp only[bQ,i0,if_neg h];exact aF
def D4 (l:List Int)(i:Nat)(m:List (List UInt8)):List UInt8:=m.getD (i0 l i (m.length:Int)) []
theorem pA (l:List Int)(i:Nat)(m:List (List UInt8))(hm:1≤m.length):D4 l i m∈m:=by have:=cB l i (m.length:Int) (by omega);unfold D4;rw[List.getD_eq_getElem?_getD,No (by omega)];exact Nr _
theorem ofV (l:List Int)(i:Nat)(m:List (List UInt8))(hi:i≤l.length)(hl:l.length≤9223372036854775807)(hm:1≤m.length∧m.length≤1000000):aH (CG G) 44 [.op 0 0 0,.d (bP m)] (aE l i) [.d (.s (D4 l i m))] (aE l (bQ l i)):=by
 have hlen:(m.map D.s).length=m.length:=by simp
 have hx:=ip l i ((m.map D.s).length:Int) hi hl (by omega);have hr:=cB l i (m.length:Int) (by omega);unfold D4;rw[hlen] at hx;generalize hg:i0 l i (m.length:Int)=r at hx hr;have hr':r<m.length:=by omega
 have hgd:m.getD r []=m[r]:=by simp[hr']
 rw[hgd];rw[←hlen] at hx;refine mH 12 Tryz.func44 ?_;refine ak [(0,0)] hx ?_ ?_;·exact aF
 refine ao r rfl (x:=D.s m[r]) (by simp[hr']) (aw [] ?_);exact aF
def lV:List UInt8:=[97,98,13,10,48,59,32]
def D6 (l:List Int):Nat→Nat→List UInt8→List UInt8×Nat|0,i,o=>(o,i)|k+1,i,o=>D6 l k (bQ l i) (o++[lV.getD (i0 l i 7) 0])
def qi (l:List Int)(i:Nat)(most:Int):List UInt8×Nat:=D6 l (i0 l i (most+1)) (bQ l i) []
theorem b6 {l:List Int}{i:Nat}(h:i≤l.length):i≤bQ l i∧bQ l i≤l.length:=by unfold bQ;split<;>omega
theorem BQ (l:List Int):∀(k i:Nat)(o:List UInt8),(D6 l k i o).1.length=o.length+k|0,_,_=>rfl|k+1,i,o=>by simp only[D6];rw[BQ l k];simp;omega
theorem Hz (l:List Int):∀(k i:Nat)(o:List UInt8),i≤l.length→i≤(D6 l k i o).2∧(D6 l k i o).2≤l.length|0,i,_,h=>⟨Nat.le_refl i,h⟩|k+1,i,o,h=>by have:=b6 h;have:=Hz l k (bQ l i) (o++[lV.getD (i0 l i 7) 0]) this.2;simp only[D6];omega
theorem MO (l:List Int)(i:Nat)(most:Int)(hi:i≤l.length)(hl:l.length≤9223372036854775807)(hm:0≤most∧most≤1000000):aH (CG G) 66 [.op 0 0 0,dI most] (aE l i) [.os 16] ((16,some (.buf 1 (aD (qi l i most).1)))::aE l (qi l i most).2):=by
 unfold qi;have hr:=cB l i (most+1) (by omega);have hx:=ip l i (most+1) hi hl (by omega);generalize hg:i0 l i (most+1)=r at hx hr;have hn:=b6 hi;generalize hfin:D6 l r (bQ l i) []=fin;refine aH.mk (n:=22) Tryz.func66 rfl rfl rfl (Nat.le_of_ble_eq_true rfl) rfl (ad (ar ⟨by omega,by omega⟩ ?_));refine ak [(0,0)] hx ?_ ?_;·exact aF
 apply aA (fun x:Nat×Nat×List UInt8=>x.2.1≤l.length∧x.2.2.length+x.1≤1000000∧D6 l x.1 x.2.1 x.2.2=fin) (fun x=>⟨[(0,.op 0 0 0),(5,.os 16),(6,dI (x.1:Int))],(16,some (.buf 1 (aD x.2.2)))::aE l x.2.1,2⟩) (fun x=>x.1) (r,bQ l i,[]) ⟨hn.2,by simp;omega,hfin⟩ [(16,_)];·simp only[aE];exact aF
 ·rintro⟨k,j,o⟩ ⟨h1,h2,h3⟩;simp only at h1 h2 h3;refine ad ?_;refine ae (fun h=>?_) (fun h=>?_)
  ·obtain⟨k,rfl⟩:∃q,k=q+1:=⟨k-1,by omega⟩;have h7:=cB l j 7 (by omega);have h7':=ip l j 7 h1 hl (by omega);simp only[D6] at h3;generalize hg7:i0 l j 7=q at h7 h7' h3;have hal:lV[q]?=some (lV.getD q 0):=by
    have:q<lV.length:=by have:lV.length=7:=rfl;omega
    simp[this]
   refine ad ?_;refine ak [(0,0)] h7' ?_ ?_;·exact aF
   refine ao q rfl hal (aB (by rw[aK];simp;omega) (ar ⟨by omega,by omega⟩ ?_));apply aG (k,bQ l j,o++[lV.getD q 0]) [(16,_)] ⟨(b6 h1).2,by simp;omega,h3⟩ (by simp only;omega);simp only[aE];((repeat' constructor)<;>(first|refine aI ?_|rfl)<;>first|exact oT|skip);all_goals (rw[cU];rfl)
  ·obtain rfl:k=0:=by omega
   simp only[D6] at h3;subst h3;apply aw [(16,_)];simp only[aE];exact aF
theorem aN {α:Type}{a b:α}(h:a=b):a=b:=h
structure Pl where
 ws:List Int
 ms:Int
 nu:Int
 de:Int
 ho:Int
 wi:Int
def sr (p:Pl):D:=.agg [.sl 1 (p.ws.map (.i .i64)),.i .i64 p.ms,.i .i64 p.nu,.i .i64 p.de,.i .i64 p.ho,.i .i64 p.wi]
def Ca (ws:List Int)(i:Nat):Bool:=decide ((1≤ws.getD i 0∧ws.getD i 0≤10000)∧(i=0∨ws.getD (i-1) 0<ws.getD i 0))
def rh (ws:List Int)(n:Nat):Bool:=(List.range n).all (Ca ws)
theorem lg (ws:List Int)(n:Nat):rh ws (n+1)=(rh ws n&&Ca ws n):=by simp[rh,List.range_succ]
def wOk (ws:List Int):Bool:=decide (1≤ws.length∧ws.length≤8)&&rh ws ws.length
def gk (p:Pl):Bool:=wOk p.ws&&decide (1≤p.ms∧p.ms≤1000000)&&decide (0≤p.nu∧p.nu≤1000000)&&decide (1≤p.de∧p.de≤1000000)&&decide (1≤p.ho∧p.ho≤100)&&decide (1≤p.wi∧p.wi≤1000000)
theorem EW (n:Int):ay (CG G) 105 [.i .i64 n] [vX (oi n)]:=by
 unfold vX oi;refine mD 7 Tryz.func105 ?_;repeat'(first|refine ad ?_|refine dk ?_|refine ae (fun _=>?_) (fun _=>?_)|refine aq ?_)
 rfl
theorem vH (q:Qu):ay (CG G) 136 [vX q] [.b q.ok]:=by
 have hl:=aK q.dat;unfold vX;refine mD 19 Tryz.func136 ?_;repeat'(first|refine ad ?_|refine dk ?_|refine ae (fun _=>?_) (fun _=>?_)|refine aq ?_)
 all_goals refine congrArg (fun x=>[D.b x]) ?_
 all_goals (symm;first|(rw[Qu.ok_iff];omega)|(rw[←Bool.not_eq_true,Qu.ok_iff];omega))
theorem HK (q:Qu):ay (CG G) 135 [vX q] [.i .i64 (q.room:Int)]:=by
 have hl:=aK q.dat;have hv:=vH q;have ho:=q.ok_iff;unfold vX at*;unfold Qu.room;cases h:q.ok
 ·rw[h] at hv;refine mD 12 Tryz.func135 ?_;repeat'(first|refine ad ?_|refine dk ?_|refine ah (hv) ?_|refine ae (fun _=>?_) (fun _=>?_)|refine aq ?_)
  rfl
 ·rw[h] at hv;have ho:=ho.1 h;refine mD 12 Tryz.func135 ?_;repeat'(first|refine ad ?_|refine dk ?_|refine ah (hv) ?_|refine ae (fun _=>?_) (fun _=>?_)|refine aq ?_)
  refine congrArg (fun x=>[D.i .i64 x]) ?_;rw[if_pos rfl];omega
theorem Qu.fits_le (q:Qu)(b:List UInt8):q.fits b≤b.length:=Nat.min_le_left _ _
theorem Qu.put_bad {q:Qu}(h:q.ok=false)(b:List UInt8):q.put b=q∧q.fits b=0:=by
 have e:q.fits b=0:=by unfold Qu.fits Qu.room;rw[h];simp
 refine⟨?_,e⟩;unfold Qu.put;rw[e];simp
theorem Kh (q:Qu)(b:List UInt8)(hb:b.length≤1000000000):ay (CG G) 106 [vX q,.sl 1 (aD b)] [vX (q.put b),.i .i64 (q.fits b:Int)]:=by
 have hl:=aK q.dat;have hbl:=aK b;have hv:=vH q;have hr:=HK q;have ho:=q.ok_iff;have hf:=q.fits_le b;have hm:min ((aD b).length:Int) (q.room:Int)=(q.fits b:Int):=by rw[hbl];unfold Qu.fits;omega
 cases h:q.ok
 ·rw[h] at hv;obtain⟨e1,e2⟩:=Qu.put_bad h b;rw[e1,e2];unfold vX at*;refine mD 28 Tryz.func106 ?_;repeat'(first|refine ad ?_|refine dk ?_|refine ah (hr) ?_|refine ah (hv) ?_|refine ae (fun _=>?_) (fun _=>?_)|refine aq ?_)
  rfl
 ·rw[h] at hv;have ho:=ho.1 h;unfold Qu.put;generalize q.fits b=n at*;unfold vX at*;refine mD 28 Tryz.func106 ?_;repeat'(first|refine ad ?_|refine dk ?_|refine ah (hr) ?_|refine ah (hv) ?_|refine ae (fun _=>?_) (fun _=>?_)|refine aq ?_)
  refine aB (by simp only[Nf];omega) ?_;refine bnd n hm (by omega) ?_;refine aB (by simp only[Na,Nj,Nf];omega) ?_;repeat'(first|refine ad ?_|refine dk ?_|refine ae (fun _=>?_) (fun _=>?_)|refine aq ?_)
  refine aN ?_;rw[hm,dT,List.nil_append,cU]
theorem M6 (q:Qu)(n:Int)(hq:q.dat.length≤1000000000):ay (CG G) 152 [vX q,.i .i64 n] [.sl 1 (aD (q.dat.take (q.fst n))),vX (q.cut n)]:=by
 have hl:=aK q.dat;have hv:=vH q;have ho:=q.ok_iff;unfold Qu.cut Qu.fst;cases h:q.ok
 ·rw[h] at hv;unfold vX at*;refine mD 31 Tryz.func152 ?_;repeat'(first|refine ad ?_|refine dk ?_|refine ah (hv) ?_|refine ae (fun _=>?_) (fun _=>?_)|refine aq ?_)
  rfl
 ·rw[h] at hv;have ho:=ho.1 h;rw[if_pos rfl];have hm:min (max n 0) ((aD q.dat).length:Int)=((min (max n 0) (q.dat.length:Int)).toNat:Int):=by rw[hl];omega
  have hle:(min (max n 0) (q.dat.length:Int)).toNat≤q.dat.length:=by omega
  generalize (min (max n 0) (q.dat.length:Int)).toNat=k at*;unfold vX at*;refine mD 31 Tryz.func152 ?_;repeat'(first|refine ad ?_|refine dk ?_|refine ah (hv) ?_|refine ae (fun _=>?_) (fun _=>?_)|refine aq ?_)
  refine bnd k hm (by omega) ?_;refine aB (by simp only[Nj,Nf];omega) ?_;refine bnd k hm (by omega) ?_;refine aB (by simp only[Nz,Nf];omega) ?_;repeat'(first|refine ad ?_|refine dk ?_|refine ae (fun _=>?_) (fun _=>?_)|refine aq ?_)
  refine aN ?_;rw[dT,fO];rfl
structure cH.Ok (p:cH):Prop where
 inn:p.inn.ok=true
 out:p.out.ok=true
 bud:0≤p.bud∧p.bud≤1000000
def cH.room (p:cH):Int:=min ((p.out.room:Int)+p.bud) 1000000
def cH.fl (p:cH)(b:List UInt8):Nat:=(min p.bud (b.length:Int)).toNat
def cH.flush (p:cH)(b:List UInt8):cH:={p with bud:=p.bud-(p.fl b:Int),out:=⟨p.out.cap,b.drop (p.fl b)⟩}
def cH.zero:cH:=⟨0,0,⟨0,[]⟩,⟨0,[]⟩,0,false,false⟩
structure PutR where
 p:cH
 sent:List UInt8
 e:Int
def cH.put (p:cH)(b:List UInt8):PutR:=if p.room<(b.length:Int) then⟨.zero,[],9⟩ else⟨p.flush (p.out.dat++b),(p.out.dat++b).take (p.fl (p.out.dat++b)),0⟩
def cH.gb (p:cH)(n:Int):cH:={p with bud:=iT (max 1000000 0) [p.bud,n] 0}
def cH.grant (p:cH)(n:Int):cH:=(p.gb n).flush p.out.dat
def cH.gsent (p:cH)(n:Int):List UInt8:=p.out.dat.take ((p.gb n).fl p.out.dat)
theorem qt (id:Int):ay (CG G) 32 [.i .i64 id] [.i .i64 (bG id)]:=by
 refine mD 45 Tryz.func32 ?_;repeat'(first|refine ad ?_|refine dk ?_|refine ae (fun _=>?_) (fun _=>?_)|refine aq ?_)
 all_goals refine congrArg (fun x=>[D.i .i64 x]) ?_
 all_goals (unfold bG;repeat' split)
 all_goals first|rfl|omega
theorem rU (id i o:Int):ay (CG G) 75 [.i .i64 id,.i .i64 i,.i .i64 o] [ee (rx id i o)]:=by
 have h1:=qt id;have h2:=EW i;have h3:=EW o;unfold vX at*;refine mD 15 Tryz.func75 ?_;repeat'(first|refine ad ?_|refine dk ?_|refine ah (h1) ?_|refine ah (h2) ?_|refine ah (h3) ?_|refine ae (fun _=>?_) (fun _=>?_)|refine aq ?_)
 rfl
theorem Av (p:cH)(b:List UInt8)(hb:b.length≤1000000000):ay (CG G) 77 [ee p,.sl 1 (aD b)] [ee (p.offer b).1,.i .i64 ((p.offer b).2:Int)]:=by have h1:=Kh p.inn b hb;obtain⟨id,cls,inn,out,bud,en,cl⟩:=p;unfold cH.offer;unfold ee bN vX at*;cases en<;>cases cl;all_goals
 refine mD 24 Tryz.func77 ?_;repeat'(first|refine ad ?_|refine dk ?_|refine ah (h1) ?_|refine ae (fun _=>?_) (fun _=>?_)|refine aq ?_)
 refine aN ?_;rfl
theorem Mt (p:cH)(n:Int)(hq:p.inn.dat.length≤1000000000):ay (CG G) 117 [ee p,.i .i64 n] [ee (p.eat n)]:=by
 have h1:=M6 p.inn n hq;unfold cH.eat;unfold ee bN vX at*;refine mD 14 Tryz.func117 ?_;repeat'(first|refine ad ?_|refine dk ?_|refine ah (h1) ?_|refine ae (fun _=>?_) (fun _=>?_)|refine aq ?_)
 rfl
theorem Mw (p:cH)(hp:0≤p.bud∧p.bud≤1000000):ay (CG G) 163 [ee p] [.i .i64 p.room]:=by
 have h1:=HK p.out;have h2:=p.out.room_le;unfold cH.room;unfold ee bN vX at*;refine mD 10 Tryz.func163 ?_;repeat'(first|refine ad ?_|refine dk ?_|refine ah (h1) ?_|refine ae (fun _=>?_) (fun _=>?_)|refine aq ?_)
 refine aN ?_;rfl
theorem GM (p:cH)(b:List UInt8)(hp:0≤p.bud∧p.bud≤1000000)(hb:b.length≤1000000000):ay (CG G) 108 [ee p,.sl 1 (aD b)] [ee (p.flush b),.sl 1 (aD (b.take (p.fl b)))]:=by
 have hl:=aK b;have hm:min p.bud ((aD b).length:Int)=(p.fl b:Int):=by rw[hl];unfold cH.fl;omega
 have hle:p.fl b≤b.length:=by unfold cH.fl;omega
 unfold cH.flush;generalize p.fl b=n at*;unfold ee bN at*;refine mD 33 Tryz.func108 ?_;repeat'(first|refine ad ?_|refine dk ?_|refine ae (fun _=>?_) (fun _=>?_)|refine aq ?_)
 refine bnd n hm (by omega) (aB (by simp only[Nz,Nf];omega) ?_);repeat'(first|refine ad ?_|refine dk ?_|refine ae (fun _=>?_) (fun _=>?_)|refine aq ?_)
 refine bnd n hm (by omega) (aB (by simp only[Nj,Nf];omega) ?_);repeat'(first|refine ad ?_|refine dk ?_|refine ae (fun _=>?_) (fun _=>?_)|refine aq ?_)
 refine aN ?_;rw[hm,dT,fO];rfl
theorem Kl (p:cH)(b:List UInt8)(hp:0≤p.bud∧p.bud≤1000000)(ho:p.out.dat.length≤1000000)(hb:b.length≤900000000):ay (CG G) 132 [ee p,.sl 1 (aD b)] [ee (p.put b).p,.sl 1 (aD (p.put b).sent),.i .i64 (p.put b).e]:=by
 have hl:=aK b;have hlo:=aK p.out.dat;have h1:=Mw p hp;have h2:=GM p (p.out.dat++b) hp (by simp only[Na];omega);unfold cH.put;unfold ee bN at*;refine ay.mk (n:=29) Tryz.func132 rfl rfl rfl (Nat.le_of_ble_eq_true rfl) (ad (ah h1 ?_));refine ae (fun a1=>?_) (fun a1=>?_)
 ·repeat'(first|refine ad ?_|refine dk ?_|refine ae (fun _=>?_) (fun _=>?_)|refine aq ?_)
  refine aN ?_;rw[if_pos (by omega)];rfl
 ·refine aB (by simp only[Nf];omega) (aB (by simp only[Na,Nf];omega) ?_);rw[List.nil_append,cU];refine ah h2 ?_;repeat'(first|refine ad ?_|refine dk ?_|refine ae (fun _=>?_) (fun _=>?_)|refine aq ?_)
  refine aN ?_;rw[if_neg (by omega)]
theorem zC (p:cH)(n:Int)(ho:p.out.dat.length≤1000000):ay (CG G) 78 [ee p,.i .i64 n] [ee (p.grant n),.sl 1 (aD (p.gsent n))]:=by
 have h1:=Hl 1000000 [p.bud,n] ⟨by decide,by decide⟩ (by simp);have hb:0≤(p.gb n).bud∧(p.gb n).bud≤1000000:=by show 0≤iT (max 1000000 0) [p.bud,n] 0∧iT (max 1000000 0) [p.bud,n] 0≤1000000;simp only[iT];omega
 have h2:=GM (p.gb n) p.out.dat hb (by omega);unfold cH.grant cH.gsent;generalize hg:p.gb n=q at*;have hq:q={p with bud:=iT (max 1000000 0) [p.bud,n] 0}:=hg.symm;generalize iT (max 1000000 0) [p.bud,n] 0=v at*;subst hq;unfold ee bN at*;unfold ft at h1;refine mD 19 Tryz.func78 ?_;repeat'(first|refine ad ?_|refine dk ?_|refine ah (h1) ?_|refine ah (h2) ?_|refine ae (fun _=>?_) (fun _=>?_)|refine aq ?_)
 rfl
theorem tp {α:Type}{l:List α}{i:Nat}(hi:i<l.length):l.take (i+1)=l.take i++[l[i]]:=by rw[List.take_add_one,No hi];rfl
def fnv1 (h:Int)(c:UInt8):Int:=IntKind.u64.wrap (cF .xor .u64 h (c.toNat:Int)*1099511628211)
def sS (h:Int)(b:List UInt8):Int:=b.foldl fnv1 h
theorem Fo {h:Int}{b:List UInt8}{i:Nat}(hi:i<b.length):sS h (b.take (i+1))=fnv1 (sS h (b.take i)) b[i]:=by unfold sS;rw[tp hi,List.foldl_append,List.foldl_cons,List.foldl_nil]
theorem Iq:ay (CG G) 198 [] [.i .u64 14695981039346656037]:=by
 refine mD 1 Tryz.func198 ?_;repeat'(first|refine ad ?_|refine dk ?_|refine ae (fun _=>?_) (fun _=>?_)|refine aq ?_)
 rfl
theorem A4 (h:Int)(b:List UInt8)(hb:b.length≤1000000000):ay (CG G) 199 [.i .u64 h,.sl 1 (aD b)] [.i .u64 (sS h b)]:=by
 have hl:=aK b;refine ay.mk (n:=21) Tryz.func199 rfl rfl rfl (Nat.le_of_ble_eq_true rfl) (ad ?_);apply aA (fun i:Nat=>i≤b.length) (fun i=>⟨[(0,.d (.i .u64 (sS h (b.take i)))),(1,.d (.sl 1 (aD b))),(5,dI (i:Int))],[],2⟩) (fun i=>b.length-i) 0 (Nat.zero_le _) [];·exact aF
 ·intro i hi;refine ad ?_;refine ae (fun h1=>?_) (fun h1=>?_)
  ·have hi':i<b.length:=by omega
   have hc:=toNat_lt b[i];refine ad (ao i rfl (mY hi') (aru ⟨by omega,by omega⟩ (cY (ar ⟨by omega,by omega⟩ ?_))));apply aG (i+1) [] (by omega) (by omega);((repeat' constructor)<;>(first|refine aI ?_|rfl)<;>first|exact oT|skip);all_goals (rw[Fo hi'];rfl)
  ·obtain rfl:i=b.length:=by omega
   repeat'(first|refine ad ?_|refine dk ?_|refine ae (fun _=>?_) (fun _=>?_)|refine aq ?_)
   refine aN ?_;rw[ND]
def lx (l:List (List UInt8)):Int:=l.foldl (fun h s=>sS (sS h s) [0]) 14695981039346656037
theorem DE {l:List (List UInt8)}{i:Nat}(hi:i<l.length):lx (l.take (i+1))=sS (sS (lx (l.take i)) l[i]) [0]:=by unfold lx;rw[tp hi,List.foldl_append,List.foldl_cons,List.foldl_nil]
theorem Kj (l:List (List UInt8))(hl:l.length≤1000)(hs:∀s,s∈l→s.length≤1000000000):ay (CG G) 161 [bP l] [.i .u64 (lx l)]:=by
 have hll:(l.map D.s).length=l.length:=by simp
 unfold bP;refine ay.mk (n:=22) Tryz.func161 rfl rfl rfl (Nat.le_of_ble_eq_true rfl) (ah Iq (ad ?_));apply aA (fun i:Nat=>i≤l.length) (fun i=>⟨[(0,.d (.sl 1 (l.map D.s))),(3,.d (.i .u64 (lx (l.take i)))),(4,dI (i:Int))],[],2⟩) (fun i=>l.length-i) 0 (Nat.zero_le _) [];·exact aF
 ·intro i hi;refine ad ?_;refine ae (fun h1=>?_) (fun h1=>?_)
  ·have hi':i<l.length:=by omega
   have h2:=hs l[i] (Nr hi');have c1:=A4 (lx (l.take i)) l[i] h2;have c2:=A4 (sS (lx (l.take i)) l[i]) [0] (by decide);rw[←DE hi'] at c2;refine ad (ao i rfl (bt hi') (ah c1 (ah c2 ?_)));repeat'(first|refine ad ?_|refine dk ?_|refine ae (fun _=>?_) (fun _=>?_)|refine aq ?_)
   apply aG (i+1) [] (by omega) (by omega);exact aF
  ·obtain rfl:i=l.length:=by omega
   repeat'(first|refine ad ?_|refine dk ?_|refine ae (fun _=>?_) (fun _=>?_)|refine aq ?_)
   refine aN ?_;rw[ND]
theorem p8 {b:Nat}(hb:2≤b):∀(k u:Nat),u<b^(k+1)→(gg b u).length≤k+1
 |0,u,h=>by rw[dQ (by simpa using h)];simp;|k+1,u,h=>by
  by_cases h1:u<b;·rw[dQ h1];simp
  ·rw[fg hb h1];have:=p8 hb k (u/b) (by rw[Nat.div_lt_iff_lt_mul (by omega)];rwa [Nat.pow_succ] at h);simp only[Na,Nb,Nf];omega
theorem bv {n:Int}(h:n≤9223372036854775807):(aY 10 n).length≤19:=by
 unfold aY;split;·simp
 ·exact p8 (by decide) 18 _ (by omega)
theorem ot {n:Int}(h:n≤9223372036854775807):(aY 16 n).length≤16:=by
 unfold aY;split;·simp
 ·exact p8 (by decide) 15 _ (by omega)
def Kw (h:Int):Nat→List UInt8|0=>[]|i+1=>Kw h i++aY 16 (IntKind.i64.wrap (cF .and .u64 (h.fdiv (2^min (60-4*(i:Int)).toNat IntKind.u64.bits)) 15))
theorem nA (n:Int):fT (IntKind.i64.wrap n):=by unfold fT;simp only[IntKind.wrap,IntKind.bits,IntKind.signed];simp;omega
theorem vJ (h:Int):∀i,(Kw h i).length≤16*i|0=>Nat.le_refl _|i+1=>by have h1:=vJ h i;have h2:=ot (nA (cF .and .u64 (h.fdiv (2^min (60-4*(i:Int)).toNat IntKind.u64.bits)) 15)).2;rw[Kw,Na];omega
theorem Gu (a b:Int)(ha:fT a)(hb:fT b):ay (CG G) 128 [.i .i64 a,.i .i64 b] [.s (Kw (lx [aY 10 (max a 0),aY 10 (max b 0)]) 16)]:=by
 have d1:=gw (max a 0) (by unfold fT at*;omega);have d2:=gw (max b 0) (by unfold fT at*;omega);have l1:=bv (n:=max a 0) (by unfold fT at*;omega);have l2:=bv (n:=max b 0) (by unfold fT at*;omega);have c1:=Kj [aY 10 (max a 0),aY 10 (max b 0)] (by simp) (by intro s hs;simp at hs;rcases hs with rfl|rfl<;>omega);generalize lx [aY 10 (max a 0),aY 10 (max b 0)]=h at*;unfold bP at c1;refine mD 33 Tryz.func128 ?_;repeat'(first|refine ad ?_|refine dk ?_|refine ah (d1) ?_|refine ah (d2) ?_|refine ah (c1) ?_|refine ae (fun _=>?_) (fun _=>?_)|refine aq ?_)
 apply aA (fun i:Nat=>i≤16) (fun i=>⟨[(5,.d (.i .u64 h)),(6,.d (.s (Kw h i))),(7,dI (i:Int))],[],2⟩) (fun i=>16-i) 0 (Nat.zero_le _) [];·exact aF
 ·intro i hi;refine ad ?_;refine ae (fun h1=>?_) (fun h1=>?_)
  ·refine ad (ar ⟨by omega,by omega⟩ (ar ⟨by omega,by omega⟩ (And.intro (by omega) ?_)));have h3:=vJ h i;have h2:=ot (nA (cF .and .u64 (h.fdiv (2^min (60-4*(i:Int)).toNat IntKind.u64.bits)) 15)).2;have c2:=KK _ (nA (cF .and .u64 (h.fdiv (2^min (60-4*(i:Int)).toNat IntKind.u64.bits)) 15));refine cY ?_;repeat'(first|refine ad ?_|refine dk ?_|refine ah (c2) ?_|refine ae (fun _=>?_) (fun _=>?_)|refine aq ?_)
   refine bg (by omega) ?_;repeat'(first|refine ad ?_|refine dk ?_|refine ae (fun _=>?_) (fun _=>?_)|refine aq ?_)
   apply aG (i+1) [] (by omega) (by omega);exact aF
  ·obtain rfl:i=16:=by omega
   repeat'(first|refine ad ?_|refine dk ?_|refine ae (fun _=>?_) (fun _=>?_)|refine aq ?_)
   rfl
theorem IK (a b:List UInt8)(ha:a.length≤1000000000)(hb:b.length≤1000000000):ay (CG G) 170 [.s a,.s b] [.i .i64 (IntKind.i64.wrap ((lx [a,b]).tmod 10000))]:=by
 have c1:=Kj [a,b] (by simp) (by intro s hs;simp at hs;rcases hs with rfl|rfl<;>omega);generalize lx [a,b]=h at*;unfold bP at c1;refine mD 11 Tryz.func170 ?_;repeat'(first|refine ad ?_|refine dk ?_|refine ah (c1) ?_|refine ae (fun _=>?_) (fun _=>?_)|refine aq ?_)
 refine eV (by decide) (cY ?_);repeat'(first|refine ad ?_|refine dk ?_|refine ae (fun _=>?_) (fun _=>?_)|refine aq ?_)
 rfl
theorem JB (b w:Int):ay (CG G) 169 [.i .i64 b,.i .i64 w] [.b (decide (0≤b∧b<w))]:=by
 refine mD 12 Tryz.func169 ?_;repeat'(first|refine ad ?_|refine dk ?_|refine ae (fun _=>?_) (fun _=>?_)|refine aq ?_)
 all_goals (first|exact congrArg (fun x=>[D.b x]) (Eq.symm (decide_eq_true (by omega)))|exact congrArg (fun x=>[D.b x]) (Eq.symm (decide_eq_false (by omega))))
theorem LI (n i:List UInt8)(h1:n.length≤1000000000)(h2:i.length≤1000000000):ay (CG G) 178 [.s n,.s i] [aL ([83,101,116,45,67,111,111,107,105,101],n++[61]++i++[59,32,80,97,116,104,61,47,59,32,72,116,116,112,79,110,108,121])]:=by
 refine mD 11 Tryz.func178 ?_;repeat'(first|refine ad ?_|refine dk ?_|refine bg (by simp;omega) ?_|refine ae (fun _=>?_) (fun _=>?_)|refine aq ?_)
 rfl
def gQ:List UInt8:=[67,111,110,110,101,99,116,105,111,110]
def Hx:List UInt8:=[72,111,115,116]
def Gz:List UInt8:=[67,111,111,107,105,101]
def zi:List (List UInt8):=[gQ,[75,101,101,112,45,65,108,105,118,101],[80,114,111,120,121,45,67,111,110,110,101,99,116,105,111,110],[84,69],[84,114,97,105,108,101,114],[84,114,97,110,115,102,101,114,45,69,110,99,111,100,105,110,103],[85,112,103,114,97,100,101],[69,120,112,101,99,116],[67,111,110,116,101,110,116,45,76,101,110,103,116,104]]
def ir (e:List UInt8):Bool:=!(decide (bY e=bY Hx)||decide (bY e=bY Gz))
def Hb (l:List bB):List (List UInt8):=zi++(cJ (aM gQ l)).filter ir
def bw (l:List bB):List bB:=ga (Hb l) l
def Mv:List (List UInt8):=[[88,45,65],[120,45,97],[88,45,66],[65,99,99,101,112,116],[67,111,110,110,101,99,116,105,111,110],[86,105,97],[67,111,111,107,105,101],[84,69],[75,101,101,112,45,65,108,105,118,101],[88,45,70,111,114,119,97,114,100,101,100,45,70,111,114],[68,97,116,101],[69,84,97,103],[85,112,103,114,97,100,101],[88,45,83,104,97,100,111,119]]
def HY:List (List UInt8):=[[],[49],[97,44,32,98],[120,45,97],[99,108,111,115,101],[107,101,101,112,45,97,108,105,118,101],[88,45,66,44,32,116,101],[99,111,104,111,114,116,61,48,49,50,51,52,53,54,55,56,57,97,98,99,100,101,102],[107,61,118,59,32,99,111,104,111,114,116,61,48,48,48,48,48,48,48,48,48,48,48,48,48,48,102,102],[49,46,49,32,111,116,104,101,114],[9,63,128,59,61]]
def wP (l:List Int)(i:Nat):bB:=(D4 l i Mv,dA (D4 l (bQ l i) HY))
theorem Me (l:List Int)(i:Nat)(hi:i≤l.length)(hl:l.length≤9223372036854775807):aH (CG G) 121 [.op 0 0 0] (aE l i) [.d (aL (wP l i))] (aE l (bQ l (bQ l i))):=by
 have h1:=ofV l i Mv hi hl (by decide);have hj:=b6 hi;have h2:=ofV l (bQ l i) HY hj.2 hl (by decide);have hv:(D4 l (bQ l i) HY).length≤9223372036854775807:=by
  have:∀x,x∈HY→x.length≤9223372036854775807:=by decide
  exact this _ (pA l (bQ l i) HY (by decide))
 have h3:=td (D4 l (bQ l i) HY) hv;unfold wP;generalize D4 l i Mv=a at h1;generalize D4 l (bQ l i) HY=b at h2 h3;unfold aL;refine mH 15 Tryz.func121 ?_;refine ak [(0,0)] h1 ?_ ?_;·simp only[aE];exact aF
 refine ak [(0,0)] h2 ?_ ?_;·simp only[aE];exact aF
 refine ah h3 (aw [] ?_);simp only[aE];exact aF
def jM (l:List Int):Nat→Nat→List bB→Nat×List bB|0,i,o=>(i,o)|n+1,i,o=>jM l n (bQ l (bQ l i)) (o++[wP l i])
def yg (l:List Int)(i:Nat)(most:Int):Nat×List bB:=jM l (i0 l i (most+1)) (bQ l i) []
end Go.Proofs.YtgfdbddglhblbaaGreat
