/- A part of the proof of what is stated of the erasing of a mirror. -/
import Derived.Test.YtgfdbddglhblbaaGreatQbk
set_option maxHeartbeats 64000000
namespace Go.Proofs.YtgfdbddglhblbaaGreat
open Go.Eng
attribute [local irreducible] aO
set_option maxRecDepth 100000
structure Lists (y:List Ev×List tM×List bC):Prop where
 e:y.1.length*48≤140737488355328
 eb:∀e,e∈y.1→e.b.length≤140737488355328
 t:y.2.1.length*72≤140737488355328
 to:∀t,t∈y.2.1→t.Ok
 a:y.2.2.length*56≤140737488355328
 ab:∀a,a∈y.2.2→a.b.length≤140737488355328
theorem NZ (l:List Int)(hl:l.length≤9223372036854775807)(raw:List Ev)(h1:raw.length*48≤140737488355328)(h1b:∀e,e∈raw→e.b.length≤140737488355328)(more:List bC)(h2:more.length*56≤140737488355328)(h2b:∀a,a∈more→a.b.length≤140737488355328)(conn near:Int)(wild:Bool):ay (CG G) 3 [ft l,.sl 4 (raw.map bH),.sl 5 (more.map bn),.i .i64 conn,.i .i64 near,.b wild] [.b true]:=by
 obtain⟨c,p,ev,st,nx,hP,cP⟩:=Oh l hl 40 (by omega);have cN:=Om c hP.cf.m.ok;have hI:=Ol hP.cf;have hev:=hP.len;have hok:=hP.ok;have cR:=Oi (iz c) ev hI hP.cf.m (by omega) hok;have hT:=B2 hP.cf.m ev hI (by omega) hok;have hTl:=rA ev (iz c);have cC:=LL c (by have:=hP.cf.m.ok.planLen;omega) (by have:=hP.cf.m.ok.ignoreLen;omega);generalize jW (iz c) ev=ts at cR hT hTl;generalize bO (iz c) ev=q at cR;generalize iz c=p1 at cN cR;have cA:=MH;unfold dw bf di bi at cN;unfold dw bf at cR;unfold di bi at cC;refine ay.mk_cut (n:=141) Tryz.func3 rfl rfl rfl (Nat.le_of_ble_eq_true rfl) ⟨[(1,.d (.sl 4 (raw.map bH))),(2,.d (.sl 5 (more.map bn))),(3,dI conn),(4,dI near),(5,.d (.b wild)),(13,.op 16 0 0)],[(16,some (N3 c p nx ev st))],2⟩ ?_ ?_
 ·repeat refine ad ?_
  refine aT (ak [] cP ?_ ?_);·exact aF
  repeat refine ad ?_
  apply Eng.freeze [(16,_)];exact aF
 refine ah cN ?_;refine ah cR ?_;refine dk ?_;apply bd (fun y:List Ev×List tM×List bC=>Lists y) (fun y=>⟨[(2,.d (.sl 5 (y.2.2.map bn))),(3,dI conn),(4,dI near),(5,.d (.b wild)),(13,.op 16 0 0),(17,.d (.sl 5 (y.2.1.map fK))),(18,.d (.sl 4 (y.1.map bH)))],[(16,some (N3 c p nx ev st))],2⟩)
 ·cases wild
  ·repeat refine ad ?_
   apply aC (ev,ts,more) [(16,_)] ⟨by show ev.length*48≤_;omega,fun e he=>by have:=(hok e he).2;omega,by show ts.length*72≤_;omega,hT,h2,h2b⟩;exact aF
  ·apply bd (fun _:Unit=>True) (fun _=>⟨[(2,.d (.sl 5 (more.map bn))),(3,dI conn),(4,dI near),(5,.d (.b true)),(13,.op 16 0 0),(18,.d (.sl 4 ((raw.take 30).map bH)))],[(16,some (N3 c p nx ev st))],2⟩)
   ·have hml:(raw.map bH).length=raw.length:=by simp
    repeat refine ad ?_
    refine ae (fun h3=>?_) (fun h3=>?_)
    ·repeat refine ad ?_
     refine bnd 30 rfl (by omega) ?_;repeat refine ad ?_
     apply aC () [(16,_)] trivial;rw[show (raw.take 30).map bH=(raw.map bH).take 30 from List.map_take ..];exact aF
    ·repeat refine ad ?_
     apply aC () [(16,_)] trivial;rw[Nt (show raw.length≤30 by omega)];exact aF
   ·rintro _ _;apply bd (fun _:Unit=>True) (fun _=>⟨[(2,.d (.sl 5 ((more.take 30).map bn))),(3,dI conn),(4,dI near),(5,.d (.b true)),(13,.op 16 0 0),(18,.d (.sl 4 ((raw.take 30).map bH)))],[(16,some (N3 c p nx ev st))],2⟩)
    ·have hml:(more.map bn).length=more.length:=by simp
     repeat refine ad ?_
     refine ae (fun h3=>?_) (fun h3=>?_)
     ·repeat refine ad ?_
      refine bnd 30 rfl (by omega) ?_;repeat refine ad ?_
      apply aC () [(16,_)] trivial;rw[show (more.take 30).map bn=(more.map bn).take 30 from List.map_take ..];exact aF
     ·repeat refine ad ?_
      apply aC () [(16,_)] trivial;rw[Nt (show more.length≤30 by omega)];exact aF
    ·rintro _ _;have r1:(raw.take 30).length≤30:=by rw[Nj];omega
     have r2:∀e,e∈raw.take 30→e.b.length≤140737488355328:=fun e he=>h1b e (List.mem_of_mem_take he);have m1:(more.take 30).length≤30:=by rw[Nj];omega
     have m2:∀a,a∈more.take 30→a.b.length≤140737488355328:=fun a ha=>h2b a (List.mem_of_mem_take ha);generalize raw.take 30=rs at r1 r2⊢;generalize more.take 30=ms at m1 m2⊢;have hml:(rs.map bH).length=rs.length:=by simp
     repeat refine ad ?_
     apply aA (fun i:Nat=>i≤rs.length) (fun i=>⟨[(2,.d (.sl 5 (ms.map bn))),(3,dI conn),(4,dI near),(5,.d (.b true)),(13,.op 16 0 0),(17,.os 17),(18,.d (.sl 4 (rs.map bH))),(19,dI (i:Int))],[(16,some (N3 c p nx ev st)),(17,some (.buf 5 (((rs.take i).map fun e=>(e,ms)).map fK)))],2⟩) (fun i=>rs.length-i) 0 (Nat.zero_le _) [(16,_),(17,_)];·exact aF
     ·rintro i hi;repeat refine ad ?_
      refine ae (fun h3=>?_) (fun h3=>?_)
      ·have hi':i<rs.length:=by omega
       have hg:(rs.map bH)[i]?=some (.agg [.i .i64 rs[i].kind,.i .i64 rs[i].conn,.i .i64 rs[i].n,.sl 1 (aD rs[i].b)]):=Bi hi';have hs:(rs.take (i+1)).map (fun e=>((e,ms):tM))=(rs.take i).map (fun e=>(e,ms))++[(rs[i],ms)]:=by rw[Nh hi',Ng];rfl
       generalize rs[i]=e at hg hs;repeat refine ad ?_
       refine ao i rfl hg ?_;refine aB (by simp only[Nl,Nj,Nb,Nf];omega) ?_;repeat refine ad ?_
       refine aq ?_;apply aG (i+1) [(16,_),(17,_)] (by omega) (by omega);rw[hs];((repeat' constructor)<;>(first|refine aI ?_|rfl)<;>first|exact oT|skip);all_goals simp
       all_goals rfl
      ·obtain rfl:i=rs.length:=by omega
       rw[ND];repeat refine ad ?_
       apply aC (rs,rs.map (fun e=>(e,ms)),ms) [(16,_)] ⟨by show rs.length*48≤_;omega,r2,by show(rs.map _).length*72≤_;rw[Nl];omega,fun t ht=>by obtain⟨e,he,rfl⟩:=List.mem_map.1 ht;exact⟨r2 e he,by show ms.length*56≤_;omega,m2⟩,by show ms.length*56≤_;omega,m2⟩;exact aF
 ·rintro⟨es,tt,ms⟩ ⟨hE,hEb,hT',hTo,hA,hAb⟩;simp only at hE hEb hT' hTo hA hAb;have d1:=uN es hE hEb;have d2:=Of es hE;have d3:=JA (es.filter dv) (by have:=NC dv es;omega);have d4:=Hi tt hT' hTo;have d5:=Oj tt hT' hTo;have d6:=I3 (iG tt) (by have:(iG tt).length≤tt.length:=(by unfold iG;rw[Nl];exact NC _ _);omega) (fun t ht=>(DF hTo t ht).l);have d7:=Hw ms hA hAb;have d8:=N1 ms hA;have d9:=H2 (ms.filter dN) (by have:=NC dN ms;omega);apply bd (fun _:Int=>True) (fun z=>⟨[(2,.d (.sl 5 (ms.map bn))),(3,dI z),(13,.op 16 0 0),(17,.d (.sl 5 (tt.map fK))),(18,.d (.sl 4 (es.map bH)))],[(16,some (N3 c p nx ev st))],2⟩)
  ·cases wild
   ·obtain⟨r,hr,w1⟩:=N2 conn 5 (by omega);obtain⟨s,hs,w2⟩:=N2 near 3 (by omega);have hg:∃x:Int,0≤x∧x≤4000000∧[D.i .i64 200000,.i .i64 300000,.i .i64 3000000,.i .i64 3900000,.i .i64 0][r]?=some (.i .i64 x):=by match r,hr with|0,_=>exact⟨_,by omega,by omega,rfl⟩;|1,_=>exact⟨_,by omega,by omega,rfl⟩;|2,_=>exact⟨_,by omega,by omega,rfl⟩;|3,_=>exact⟨_,by omega,by omega,rfl⟩;|4,_=>exact⟨_,by omega,by omega,rfl⟩;|r+5,h=>omega
    obtain⟨x,x1,x2,hg⟩:=hg;repeat refine ad ?_
    refine ah w1 ?_;refine bh r rfl (by simp;omega) ?_;refine az hg ?_;refine ah w2 ?_;refine aq ?_;refine aq ?_;refine dk ?_;repeat refine ad ?_
    apply aC _ [(16,_)] trivial;exact aF
   ·repeat refine ad ?_
    apply aC conn [(16,_)] trivial;exact aF
  ·rintro z _;have k1:=xT z;have k2:=N8 z;generalize oL z=k at k1 k2;refine ah cC ?_;repeat refine ad ?_
   refine ah k1 ?_;refine ah k2 ?_;refine bE true (by cases k<;>rfl) ?_;refine ah d1 ?_;refine ah d2 ?_;refine ah d3 ?_;refine ah d4 ?_;refine ah d5 ?_;refine ah d6 ?_;refine ah d7 ?_;refine ah d8 ?_;refine ah d9 ?_;refine aj rfl ?_;refine aj rfl ?_;refine ah cA ?_;refine dk ?_;repeat refine ad ?_
   rfl
def evOf (x:Int×Int×Int×List UInt8):Ev:=⟨x.1,x.2.1,x.2.2.1,x.2.2.2⟩
def acOf (x:Int×Int×Int×Int×List UInt8):bC:=⟨x.1,x.2.1,x.2.2.1,x.2.2.2.1,x.2.2.2.2⟩
theorem NX (l:List Int)(hl:l.length≤9223372036854775807)(raw:List (Int×Int×Int×List UInt8))(h1:raw.length*48≤140737488355328)(h1b:∀e,e∈raw→e.2.2.2.length≤140737488355328)(more:List (Int×Int×Int×Int×List UInt8))(h2:more.length*56≤140737488355328)(h2b:∀a,a∈more→a.2.2.2.2.length≤140737488355328)(conn near:Int)(wild:Bool):ay (CG G) 3 [ft l,.sl 4 (raw.map fun x=>bH (evOf x)),.sl 5 (more.map fun x=>bn (acOf x)),.i .i64 conn,.i .i64 near,.b wild] [.b true]:=by have h:=NZ l hl (raw.map evOf) (by rw[Nl];exact h1) (fun e he=>by obtain⟨x,hx,rfl⟩:=List.mem_map.1 he;exact h1b x hx) (more.map acOf) (by rw[Nl];exact h2) (fun e he=>by obtain⟨x,hx,rfl⟩:=List.mem_map.1 he;exact h2b x hx) conn near wild;rw[List.map_map,List.map_map] at h;exact h
end Go.Proofs.YtgfdbddglhblbaaGreat
