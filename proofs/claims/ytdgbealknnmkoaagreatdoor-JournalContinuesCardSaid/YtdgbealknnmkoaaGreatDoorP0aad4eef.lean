/- Texts of one proof, put together by a program: each lemma is proved for all values of its variables, under the premises that it states. -/
import Derived.Test.YtdgbealknnmkoaaGreatDoorPc4cbf275
set_option linter.unusedVariables false
set_option linter.unusedSimpArgs false
namespace Go.Proofs.YtdgbealknnmkoaaGreatDoor
open Go Go.RowKit
def rpB (L:List Nd):Bool:=rtB L&&((List.range (L.length / 2)).all (prB L))&&decide (AQ (ouC L) L.length 0=0)
section
variable {I:WInv}{c c':Bool}
theorem VX (L:List Nd)(n M:Nat)(hn:L.length=n)(hM:n=2*M+1)(hl:n≤2002)(h : ∀ x,x < M→prB L x=true) :
  LoopTr Tryz.prog I 192 (AK Tryz.prog 114 0) (MY L n (clt L 0) (2*((0:Nat):Int)+1)) (.exit 0) ⟨[(0,.t (slI 1 ((Av L).map (Ae)))),(1,.t (slI 3 ((AG L).map (AA)))),(2,.t (slI 1 ((Ca L).map (Bl)))),(7,.i (n:Int)),(8,.s 25)],[(25,some ⟨3,some (1,n),Aa ((clt L M).map Ae)⟩)],50⟩ :=
 Bq (by simp) (fun m=>MY L n (clt L m) (2*(m:Int)+1)) M (fun m hm=>(GF L n hn m (by omega) hl).1 (h m hm)) (by
  exact Rnd.nam [] (show Rnd _ _ _ _ _ _ ⟨[(0,.t (slI 1 ((Av L).map (Ae)))),(1,.t (slI 3 ((AG L).map (AA)))),(2,.t (slI 1 ((Ca L).map (Bl)))),(7,.i (n:Int)),(8,.s 25)],[(25,some ⟨3,some (1,n),Aa ((clt L M).map Ae)⟩)],53⟩ from rr [pk (Ai 3 (2*(M:Int)+1) (n:Int))]) (t:=⟨[(0,.t (slI 1 ((Av L).map (Ae)))),(1,.t (slI 3 ((AG L).map (AA)))),(2,.t (slI 1 ((Ca L).map (Bl)))),(7,.i (n:Int)),(8,.s 25)],[(25,some ⟨3,some (1,n),Aa ((clt L M).map Ae)⟩)],50⟩) ⟨rfl,TVle.refl,rfl,TVle.refl,rfl,TVle.refl,rfl,TVle.refl,rfl,TVle.refl,trivial⟩ ⟨rfl,rfl,rfl,ILe.refl,trivial⟩)
theorem VW (L:List Nd)(n i:Nat)(hn:L.length=n)(hi:2*i+2 < n)(hl:n≤2002)(h : ∀ x,x < i→prB L x=true)(hb:prB L i=false) :
  LoopTr Tryz.prog I 192 (AK Tryz.prog 114 0) (MY L n (clt L 0) (2*((0:Nat):Int)+1)) .ret (Rm 50) :=
 Bq (by simp) (fun m=>MY L n (clt L m) (2*(m:Int)+1)) i (fun m hm=>(GF L n hn m (by omega) hl).1 (h m hm)) ((GF L n hn i hi hl).2 hb)
theorem XU (L : List Nd) (h0 : 0 < L.length) (hl : L.length ≤ 2002) : Sp Tryz.prog I 114 [Rs L, Sg L, Aca L] (lb (rpB L)) := by
 obtain ⟨n,hn⟩ : ∃ n,L.length=n:=⟨_,rfl⟩;have hlp:=Dp L;have e0:0 < (Av L).length:=by rw[Dp];exact h0
 have f0:0 < (AG L).length:=by rw[EW];exact h0
 have g0:=JT h0;have hz:=WZ (I:=I) (dat (AG L) 0);rw[Kv h0] at hz;have d0:=Kv h0;by_cases q3:L.length % 2=1
 ·by_cases q1 : (tat L 0).par = -1
  ·by_cases q2:dcn (tat L 0)=(0,0,false)
   ·rw[decide_eq_true q2,←d0] at hz
    obtain ⟨M,hM⟩ : ∃ M,L.length=2*M+1:=⟨L.length / 2,by omega⟩
    have hM2:L.length / 2=M:=by omega
    have hz0:clt L 0=List.replicate L.length 0:=rfl;rcases Hs (prB L) M with h | ⟨i,h1,h2,h3⟩
    ·have lo:=VX (I:=I) L n M hn (by omega) (by omega) h
     unfold MY at lo;rw[hz0,Fz,hn,show 2*((0:Nat):Int)+1=1 from rfl] at lo;have lo2:=Aat (I:=I) L n hn (by omega) (by have:=Lf (L:=L) (m:=M) h;rw[hM];exact this)
     unfold Aas at lo2;rw[hM2] at lo2;by_cases k:AQ (ouC L) n 0=0
     ·rw[show rpB L=true by unfold rpB rtB;rw[hM2,hn];simp[q1,q2,k,hn▸q3];exact h]
      have lo2:=lo2.1 k;rw[hM2] at *;exact sr 192 [pk (Al 40 3 3 1 ((Av L).map (Ae)) (n:Int)),pk (Ag 3 (n:Int) 0),pk (DJ 3 (n:Int) 2 (by omega)),pk (AO 3 (((n:Int)).tmod 2) 0 false (decide_eq_false (by rw[Int.tmod_eq_emod_of_nonneg (by omega)];omega))),pk (Aj 40 3 1 ((Av L).map (Ae)) 0 0 (Ae (iat (Av L) 0)) (AC e0)),pk (Ao 3 (iat (Av L) 0) (-1)),pk (Aj 110 101 3 ((AG L).map (AA)) 0 0 (AA (dat (AG L) 0)) (AW f0)),po (hz),pa,⟨.mk (n:Int) n 8,⟨rfl,by omega,by simp only[maxLen];omega⟩⟩,⟨.mk (n:Int) n 8,⟨rfl,by omega,by simp only[maxLen];omega⟩⟩,pl (lo),pm (AX (I:=I) (t:=8) (k:=25) (E:=[(0,.t (slI 1 ((Av L).map (Ae)))),(1,.t (slI 3 ((AG L).map (AA)))),(2,.t (slI 1 ((Ca L).map (Bl)))),(7,.i (n:Int))]) (B:=[]) (nx:=50) (T:=3) (sz:=1) (n:=n) ((clt L M).map Ae) rfl (by rw[List.length_map,Ew];exact hn.symm) LV rfl),pl (lo2)]
     ·rw[show rpB L=false by unfold rpB;rw[hn,decide_eq_false k,Bool.and_false]]
      have lo2:=lo2.2 k;exact sr 192 [pk (Al 40 3 3 1 ((Av L).map (Ae)) (n:Int)),pk (Ag 3 (n:Int) 0),pk (DJ 3 (n:Int) 2 (by omega)),pk (AO 3 (((n:Int)).tmod 2) 0 false (decide_eq_false (by rw[Int.tmod_eq_emod_of_nonneg (by omega)];omega))),pk (Aj 40 3 1 ((Av L).map (Ae)) 0 0 (Ae (iat (Av L) 0)) (AC e0)),pk (Ao 3 (iat (Av L) 0) (-1)),pk (Aj 110 101 3 ((AG L).map (AA)) 0 0 (AA (dat (AG L) 0)) (AW f0)),po (hz),pa,⟨.mk (n:Int) n 8,⟨rfl,by omega,by simp only[maxLen];omega⟩⟩,⟨.mk (n:Int) n 8,⟨rfl,by omega,by simp only[maxLen];omega⟩⟩,pl (lo),pm (AX (I:=I) (t:=8) (k:=25) (E:=[(0,.t (slI 1 ((Av L).map (Ae)))),(1,.t (slI 3 ((AG L).map (AA)))),(2,.t (slI 1 ((Ca L).map (Bl)))),(7,.i (n:Int))]) (B:=[]) (nx:=50) (T:=3) (sz:=1) (n:=n) ((clt L M).map Ae) rfl (by rw[List.length_map,Ew];exact hn.symm) LV rfl),pl (lo2)]
    ·have lo:=VW (I:=I) L n i hn (by omega) (by omega) h2 h3
     unfold MY at lo;rw[hz0,Fz,hn,show 2*((0:Nat):Int)+1=1 from rfl] at lo;rw[show rpB L=false by
      unfold rpB;rw[Bool.and_eq_false_iff,Bool.and_eq_false_iff];left;right;rw[List.all_eq_false];exact ⟨i,List.mem_range.2 (by omega),by simp[h3]⟩]
     exact sr 192 [pk (Al 40 3 3 1 ((Av L).map (Ae)) (n:Int)),pk (Ag 3 (n:Int) 0),pk (DJ 3 (n:Int) 2 (by omega)),pk (AO 3 (((n:Int)).tmod 2) 0 false (decide_eq_false (by rw[Int.tmod_eq_emod_of_nonneg (by omega)];omega))),pk (Aj 40 3 1 ((Av L).map (Ae)) 0 0 (Ae (iat (Av L) 0)) (AC e0)),pk (Ao 3 (iat (Av L) 0) (-1)),pk (Aj 110 101 3 ((AG L).map (AA)) 0 0 (AA (dat (AG L) 0)) (AW f0)),po (hz),pa,⟨.mk (n:Int) n 8,⟨rfl,by omega,by simp only[maxLen];omega⟩⟩,⟨.mk (n:Int) n 8,⟨rfl,by omega,by simp only[maxLen];omega⟩⟩,pl (lo)]
   ·rw[decide_eq_false q2,←d0] at hz
    rw[show rpB L=false by unfold rpB rtB;simp[q2]]
    exact sr 192 [pk (Al 40 3 3 1 ((Av L).map (Ae)) (n:Int)),pk (Ag 3 (n:Int) 0),pk (DJ 3 (n:Int) 2 (by omega)),pk (AO 3 (((n:Int)).tmod 2) 0 false (decide_eq_false (by rw[Int.tmod_eq_emod_of_nonneg (by omega)];omega))),pk (Aj 40 3 1 ((Av L).map (Ae)) 0 0 (Ae (iat (Av L) 0)) (AC e0)),pk (Ao 3 (iat (Av L) 0) (-1)),pk (Aj 110 101 3 ((AG L).map (AA)) 0 0 (AA (dat (AG L) 0)) (AW f0)),po (hz),pa]
  ·rw[show rpB L=false by unfold rpB rtB;simp[q1]]
   exact sr 192 [pk (Al 40 3 3 1 ((Av L).map (Ae)) (n:Int)),pk (Ag 3 (n:Int) 0),pk (DJ 3 (n:Int) 2 (by omega)),pk (AO 3 (((n:Int)).tmod 2) 0 false (decide_eq_false (by rw[Int.tmod_eq_emod_of_nonneg (by omega)];omega))),pk (Aj 40 3 1 ((Av L).map (Ae)) 0 0 (Ae (iat (Av L) 0)) (AC e0)),pk (AI 3 (iat (Av L) 0) (-1))]
 ·rw[show rpB L=false by unfold rpB rtB;simp[q3]]
  exact sr 192 [pk (Al 40 3 3 1 ((Av L).map (Ae)) (n:Int)),pk (Ag 3 (n:Int) 0),pk (DJ 3 (n:Int) 2 (by omega)),pk (AO 3 (((n:Int)).tmod 2) 0 true (decide_eq_true (by rw[Int.tmod_eq_emod_of_nonneg (by omega)];omega)))]
end
def Q1 (f:Bool)(z:Int)(q:Rat):Bool:=f&&decide (z≤civ q)
def bdC (L:List Nd)(i:Nat):Int:=if (tat L i).q < (tat L (tat L i).par.toNat).q then 12 else 0
def rsC (L:List Nd)(f:Bool)(z:Int)(i:Nat):Int:=if (tat L i).st=1 then 0 else if decide ((tat L i).st=2)=Q1 f z (tat L i).q then 0 else 16
def rvc (L:List Nd)(f:Bool)(z:Int):Int :=
 if L.length < 1∨2000 < L.length then 10 else if BG z=false∨(f=false∧z≠0) then 5 else if AQ (BP L) L.length 0≠0 then AQ (BP L) L.length 0 else if rpB L=false then 12 else
 if AQ (fun j=>bdC L (j+1)) (L.length - 1) 0≠0 then AQ (fun j=>bdC L (j+1)) (L.length - 1) 0 else AQ (rsC L f z) L.length 0
section
variable {I:WInv}{c c':Bool}
theorem OY (L:List Nd)(f:Bool)(z:Int)(q:Rat):Sp Tryz.prog I 77 [trT c L f z,fc c' 12 q] (lb (Q1 f z q)):=by
 unfold Q1;cases f with
 | false=>exact sr 20 [po (BI (I:=I) (c:=c') (p:=q))]
 | true =>
  by_cases h:z≤civ q
  ·rw[decide_eq_true h]
   exact sr 20 [po (BI (I:=I) (c:=c') (p:=q)),pk (Bn 3 (civ q) z)]
  ·rw[decide_eq_false h]
   exact sr 20 [po (BI (I:=I) (c:=c') (p:=q)),pk (Bd 3 (civ q) z)]
def rv1 (c:Bool)(L:List Nd)(f:Bool)(z:Int)(n:Nat)(i:Int):Go.Proofs.YtdgbealknnmkoaaGreatDoor.St:=⟨[(1,.p 0 0),(3,.i (n:Int)),(4,.i i)],[(0,some ⟨46,none,[.b (.it (slI 9 ((L).map (Ac c)))),.o f,.i z]⟩)],50⟩
def rv2 (c:Bool)(L:List Nd)(f:Bool)(z:Int)(n:Nat)(i:Int):Go.Proofs.YtdgbealknnmkoaaGreatDoor.St:=⟨[(1,.p 0 0),(3,.i (n:Int)),(7,.t (slI 1 ((Av L).map (Ae)))),(9,.t (slI 1 ((Ca L).map (Bl)))),(10,.i i)],[(0,some ⟨46,none,[.b (.it (slI 9 ((L).map (Ac c)))),.o f,.i z]⟩)],50⟩
def rv3 (c:Bool)(L:List Nd)(f:Bool)(z:Int)(n:Nat)(i:Int):Go.Proofs.YtdgbealknnmkoaaGreatDoor.St:=⟨[(1,.p 0 0),(3,.i (n:Int)),(9,.t (slI 1 ((Ca L).map (Bl)))),(11,.i i)],[(0,some ⟨46,none,[.b (.it (slI 9 ((L).map (Ac c)))),.o f,.i z]⟩)],50⟩
theorem Lx (L:List Nd)(f:Bool)(z:Int)(n:Nat)(hn:L.length=n)(hl:n≤2000)(i:Nat)(hi:i < L.length) :
  (BP L i=0→Rnd Tryz.prog I 131 (AK Tryz.prog 70 0) (rv1 c L f z n (i:Int)) .normal (rv1 c L f z n ((i+1:Nat):Int)))∧(BP L i≠0→Rnd Tryz.prog I 131 (AK Tryz.prog 70 0) (rv1 c L f z n (i:Int)) .ret ⟨[(2,li 5)],[],50⟩):=by
 cases h3:okc (tat L i).q with
 | false =>
  have e:=J4 h3;refine ⟨fun h => ?_,fun _ => ?_⟩
  ·unfold BP at h
   rw[h3] at h;split at h
   ·omega
   ·exact absurd h (by decide)
  ·by_cases h1:(tat L i).st < 0
   ·exact rr [pk (Ak 3 (i:Int) (n:Int)),pk (Aj 44 103 9 ((L).map (Ac c)) i (i:Int) ((Ac c) (tat L i)) (An hi)),po (BI (I:=I) (c:=c) (p:=(tat L i).q)),pk (Aj 44 103 9 ((L).map (Ac c)) i (i:Int) ((Ac c) (tat L i)) (An hi)),pk (Ak 3 ((tat L i).st) 0)]
   ·by_cases h2:2 < (tat L i).st
    ·exact rr [pk (Ak 3 (i:Int) (n:Int)),pk (Aj 44 103 9 ((L).map (Ac c)) i (i:Int) ((Ac c) (tat L i)) (An hi)),po (BI (I:=I) (c:=c) (p:=(tat L i).q)),pk (Aj 44 103 9 ((L).map (Ac c)) i (i:Int) ((Ac c) (tat L i)) (An hi)),pk (Ai 3 ((tat L i).st) 0),pk (Aj 44 103 9 ((L).map (Ac c)) i (i:Int) ((Ac c) (tat L i)) (An hi)),pk (BY 3 ((tat L i).st) 2)]
    ·exact rr [pk (Ak 3 (i:Int) (n:Int)),pk (Aj 44 103 9 ((L).map (Ac c)) i (i:Int) ((Ac c) (tat L i)) (An hi)),po (BI (I:=I) (c:=c) (p:=(tat L i).q)),pk (Aj 44 103 9 ((L).map (Ac c)) i (i:Int) ((Ac c) (tat L i)) (An hi)),pk (Ai 3 ((tat L i).st) 0),pk (Aj 44 103 9 ((L).map (Ac c)) i (i:Int) ((Ac c) (tat L i)) (An hi)),pk (Au 3 ((tat L i).st) 2),pk (AI 32 (cie ((tat L i).q)) 0)]
 | true =>
  have e:=Fx h3;by_cases h1:(tat L i).st < 0
  ·refine ⟨fun h=>absurd h (by unfold BP;rw[if_pos (.inl h1)];decide),fun _ => ?_⟩
   exact rr [pk (Ak 3 (i:Int) (n:Int)),pk (Aj 44 103 9 ((L).map (Ac c)) i (i:Int) ((Ac c) (tat L i)) (An hi)),po (BI (I:=I) (c:=c) (p:=(tat L i).q)),pk (Aj 44 103 9 ((L).map (Ac c)) i (i:Int) ((Ac c) (tat L i)) (An hi)),pk (Ak 3 ((tat L i).st) 0)]
  ·by_cases h2:2 < (tat L i).st
   ·refine ⟨fun h=>absurd h (by unfold BP;rw[if_pos (.inr h2)];decide),fun _ => ?_⟩
    exact rr [pk (Ak 3 (i:Int) (n:Int)),pk (Aj 44 103 9 ((L).map (Ac c)) i (i:Int) ((Ac c) (tat L i)) (An hi)),po (BI (I:=I) (c:=c) (p:=(tat L i).q)),pk (Aj 44 103 9 ((L).map (Ac c)) i (i:Int) ((Ac c) (tat L i)) (An hi)),pk (Ai 3 ((tat L i).st) 0),pk (Aj 44 103 9 ((L).map (Ac c)) i (i:Int) ((Ac c) (tat L i)) (An hi)),pk (BY 3 ((tat L i).st) 2)]
   ·refine ⟨fun _ => ?_,fun h=>absurd (show BP L i=0 by unfold BP;rw[if_neg (by omega),h3];rfl) h⟩
    exact rr [pk (Ak 3 (i:Int) (n:Int)),pk (Aj 44 103 9 ((L).map (Ac c)) i (i:Int) ((Ac c) (tat L i)) (An hi)),po (BI (I:=I) (c:=c) (p:=(tat L i).q)),pk (Aj 44 103 9 ((L).map (Ac c)) i (i:Int) ((Ac c) (tat L i)) (An hi)),pk (Ai 3 ((tat L i).st) 0),pk (Aj 44 103 9 ((L).map (Ac c)) i (i:Int) ((Ac c) (tat L i)) (An hi)),pk (Au 3 ((tat L i).st) 2),pk (Ao 32 (cie ((tat L i).q)) 0),pk (Ay 3 (i:Int) 1 ⟨by omega,by omega⟩)]
theorem Lw (L:List Nd)(f:Bool)(z:Int)(n:Nat)(hn:L.length=n)(hl:n≤2000)(hD:Dn L (L.length - 1))(i:Nat)(h0:0 < i)(hi:i < L.length) :
  (bdC L i=0→Rnd Tryz.prog I 131 (AK Tryz.prog 70 1) (rv2 c L f z n (i:Int)) .normal (rv2 c L f z n ((i+1:Nat):Int)))∧(bdC L i≠0→Rnd Tryz.prog I 131 (AK Tryz.prog 70 1) (rv2 c L f z n (i:Int)) .ret ⟨[(2,li 12)],[],50⟩):=by
 have ei:i < (Av L).length:=by rw[Dp];exact hi
 obtain ⟨p,hpe,hlt⟩:=hD.nat h0 (by omega)
 have hp:p < L.length:=by omega
 have g:=JT hi;have ht:(tat L i).par.toNat=p:=by omega
 unfold bdC;rw[ht];by_cases h:(tat L i).q < (tat L p).q
 ·rw[if_pos h]
  refine ⟨fun h=>by omega,fun _ => ?_⟩
  exact rr [pk (Ak 3 (i:Int) (n:Int)),pk (Aj 44 103 9 ((L).map (Ac c)) i (i:Int) ((Ac c) (tat L i)) (An hi)),pk (Aj 40 3 1 ((Av L).map (Ae)) i (i:Int) (Ae (iat (Av L) i)) (AC ei)),pk (Aj 44 103 9 ((L).map (Ac c)) p (iat (Av L) i) ((Ac c) (tat L p)) (An hp)),po (Qs (I:=I) (c:=c) (c':=c) (p:=(tat L i).q) (q:=(tat L p).q)),pk (CK 3 (CJ ((tat L i).q) ((tat L p).q)) 0 true (NH (by grind)))]
 ·rw[if_neg h]
  refine ⟨fun _ => ?_,fun h=>by omega⟩
  exact rr [pk (Ak 3 (i:Int) (n:Int)),pk (Aj 44 103 9 ((L).map (Ac c)) i (i:Int) ((Ac c) (tat L i)) (An hi)),pk (Aj 40 3 1 ((Av L).map (Ae)) i (i:Int) (Ae (iat (Av L) i)) (AC ei)),pk (Aj 44 103 9 ((L).map (Ac c)) p (iat (Av L) i) ((Ac c) (tat L p)) (An hp)),po (Qs (I:=I) (c:=c) (c':=c) (p:=(tat L i).q) (q:=(tat L p).q)),pk (CK 3 (CJ ((tat L i).q) ((tat L p).q)) 0 false (Hz (by grind))),pk (Ay 3 (i:Int) 1 ⟨by omega,by omega⟩)]
theorem Lv (L:List Nd)(f:Bool)(z:Int)(n:Nat)(hn:L.length=n)(hl:n≤2000)(i:Nat)(hi:i < L.length) :
  (rsC L f z i=0→Rnd Tryz.prog I 131 (AK Tryz.prog 70 2) (rv3 c L f z n (i:Int)) .normal (rv3 c L f z n ((i+1:Nat):Int)))∧(rsC L f z i≠0→Rnd Tryz.prog I 131 (AK Tryz.prog 70 2) (rv3 c L f z n (i:Int)) .ret ⟨[(2,li 16)],[],50⟩):=by
 have es:i < (Ca L).length:=by rw[G4];exact hi
 have hb:=OY (I:=I) (c:=c) (c':=c) L f z (tat L i).q;have hs:=FP hi;unfold rsC;by_cases h1:(tat L i).st=1
 ·rw[decide_eq_true h1] at hs
  rw[if_pos h1];refine ⟨fun _ => ?_,fun h=>absurd rfl h⟩
  exact rr [pk (Ak 3 (i:Int) (n:Int)),pk (Aj 111 4 1 ((Ca L).map (Bl)) i (i:Int) ([.lit (.bool true)]) (Lo es hs)),pa,pk (Ay 3 (i:Int) 1 ⟨by omega,by omega⟩)]
 ·rw[decide_eq_false h1] at hs
  rw[if_neg h1];cases hbe:Q1 f z (tat L i).q with
  | true =>
   rw[hbe] at hb;by_cases h2:(tat L i).st=2
   ·rw[decide_eq_true h2,if_pos rfl]
    refine ⟨fun _ => ?_,fun h=>absurd rfl h⟩
    exact rr [pk (Ak 3 (i:Int) (n:Int)),pk (Aj 111 4 1 ((Ca L).map (Bl)) i (i:Int) ([.lit (.bool false)]) (Lo es hs)),pa,pk (Aj 44 103 9 ((L).map (Ac c)) i (i:Int) ((Ac c) (tat L i)) (An hi)),pk (Ar 3 ((tat L i).st) 2),pk (Aj 44 103 9 ((L).map (Ac c)) i (i:Int) ((Ac c) (tat L i)) (An hi)),po (hb),pa,pk (Ay 3 (i:Int) 1 ⟨by omega,by omega⟩)]
   ·rw[decide_eq_false h2,if_neg (by simp)]
    refine ⟨fun h=>by omega,fun _ => ?_⟩
    exact rr [pk (Ak 3 (i:Int) (n:Int)),pk (Aj 111 4 1 ((Ca L).map (Bl)) i (i:Int) ([.lit (.bool false)]) (Lo es hs)),pa,pk (Aj 44 103 9 ((L).map (Ac c)) i (i:Int) ((Ac c) (tat L i)) (An hi)),pk (Ag 3 ((tat L i).st) 2),pk (Aj 44 103 9 ((L).map (Ac c)) i (i:Int) ((Ac c) (tat L i)) (An hi)),po (hb),pa]
  | false =>
   rw[hbe] at hb;by_cases h2:(tat L i).st=2
   ·rw[decide_eq_true h2,if_neg (by simp)]
    refine ⟨fun h=>by omega,fun _ => ?_⟩
    exact rr [pk (Ak 3 (i:Int) (n:Int)),pk (Aj 111 4 1 ((Ca L).map (Bl)) i (i:Int) ([.lit (.bool false)]) (Lo es hs)),pa,pk (Aj 44 103 9 ((L).map (Ac c)) i (i:Int) ((Ac c) (tat L i)) (An hi)),pk (Ar 3 ((tat L i).st) 2),pk (Aj 44 103 9 ((L).map (Ac c)) i (i:Int) ((Ac c) (tat L i)) (An hi)),po (hb),pa]
   ·rw[decide_eq_false h2,if_pos rfl]
    refine ⟨fun _ => ?_,fun h=>absurd rfl h⟩
    exact rr [pk (Ak 3 (i:Int) (n:Int)),pk (Aj 111 4 1 ((Ca L).map (Bl)) i (i:Int) ([.lit (.bool false)]) (Lo es hs)),pa,pk (Aj 44 103 9 ((L).map (Ac c)) i (i:Int) ((Ac c) (tat L i)) (An hi)),pk (Ag 3 ((tat L i).st) 2),pk (Aj 44 103 9 ((L).map (Ac c)) i (i:Int) ((Ac c) (tat L i)) (An hi)),po (hb),pa,pk (Ay 3 (i:Int) 1 ⟨by omega,by omega⟩)]
theorem Z1 {L:List Nd}{i:Nat}(h:bdC L i≠0):bdC L i=12:=by
 unfold bdC at h ⊢;split
 ·rfl
 ·rename_i k;rw[if_neg k] at h;exact absurd rfl h
theorem Acn {L:List Nd}{f:Bool}{z:Int}{i:Nat}(h:rsC L f z i≠0):rsC L f z i=16:=by
 unfold rsC at h ⊢;split
 ·rename_i k;rw[if_pos k] at h;exact absurd rfl h
 ·rename_i k
  rw[if_neg k] at h;split
  ·rename_i k2;rw[if_pos k2] at h;exact absurd rfl h
  ·rfl
theorem P7 {L:List Nd}(h:rpB L=true):Dn L (L.length - 1):=by
 unfold rpB rtB at h;simp only[Bool.and_eq_true,List.all_eq_true,List.mem_range,decide_eq_true_eq] at h;obtain ⟨⟨⟨_,h1⟩,h2⟩,_⟩:=h;have:=Lf (L:=L) (m:=L.length / 2) h2;rw[show L.length - 1=2*(L.length / 2) by omega]
 exact this
theorem SH (L:List Nd)(f:Bool)(z:Int)(hl:L.length≤2000) :
  ((AQ (BP L) L.length 0=0→LoopTr Tryz.prog I 131 (AK Tryz.prog 70 0) (rv1 c L f z L.length ((0:Nat):Int)) (.exit 0) ⟨[(1,.p 0 0),(3,.i ((L).length:Int))],[(0,some ⟨46,none,[.b (.it (slI 9 ((L).map (Ac c)))),.o f,.i z]⟩)],50⟩)∧(AQ (BP L) L.length 0≠0→LoopTr Tryz.prog I 131 (AK Tryz.prog 70 0) (rv1 c L f z L.length ((0:Nat):Int)) .ret ⟨[(2,li (AQ (BP L) L.length 0))],[],50⟩)) ∧
  (Dn L (L.length - 1)→0 < L.length→(AQ (fun j=>bdC L (j+1)) (L.length - 1) 0=0→LoopTr Tryz.prog I 131 (AK Tryz.prog 70 1) (rv2 c L f z L.length ((1:Nat):Int)) (.exit 2) ⟨[(1,.p 0 0),(3,.i ((L).length:Int)),(9,.t (slI 1 ((Ca L).map (Bl))))],[(0,some ⟨46,none,[.b (.it (slI 9 ((L).map (Ac c)))),.o f,.i z]⟩)],50⟩)∧(AQ (fun j=>bdC L (j+1)) (L.length - 1) 0≠0→LoopTr Tryz.prog I 131 (AK Tryz.prog 70 1) (rv2 c L f z L.length ((1:Nat):Int)) .ret ⟨[(2,li (AQ (fun j=>bdC L (j+1)) (L.length - 1) 0))],[],50⟩)) ∧
  ((AQ (rsC L f z) L.length 0=0→LoopTr Tryz.prog I 131 (AK Tryz.prog 70 2) (rv3 c L f z L.length ((0:Nat):Int)) (.exit 4) ⟨[],[],50⟩)∧(AQ (rsC L f z) L.length 0≠0→LoopTr Tryz.prog I 131 (AK Tryz.prog 70 2) (rv3 c L f z L.length ((0:Nat):Int)) .ret ⟨[(2,li (AQ (rsC L f z) L.length 0))],[],50⟩)):=by
 refine ⟨?_,fun hD h0 => ?_,?_⟩
 ·refine CM (BP L) L.length (fun i=>rv1 c L f z L.length (i:Int)) (fun r=>⟨[(2,li r)],[],50⟩) (fun i hi hc=>(Lx L f z _ rfl hl i hi).1 hc) ?_ (fun i hi hc => ?_)
  ·exact rr [pk (Ai 3 ((L).length:Int) ((L).length:Int))]
  ·rw[Yg hc]
   exact (Lx L f z _ rfl hl i hi).2 hc
 ·refine CM (fun j=>bdC L (j+1)) (L.length - 1) (fun i=>rv2 c L f z L.length ((i+1:Nat):Int)) (fun r=>⟨[(2,li r)],[],50⟩) (fun i hi hc=>(Lw L f z _ rfl hl hD (i+1) (by omega) (by omega)).1 hc) ?_ (fun i hi hc => ?_)
  ·rw[show L.length - 1+1=L.length by omega]
   exact rr [pk (Ai 3 ((L).length:Int) ((L).length:Int))]
  ·rw[Z1 hc]
   exact (Lw L f z _ rfl hl hD (i+1) (by omega) (by omega)).2 hc
 ·refine CM (rsC L f z) L.length (fun i=>rv3 c L f z L.length (i:Int)) (fun r=>⟨[(2,li r)],[],50⟩) (fun i hi hc=>(Lv L f z _ rfl hl i hi).1 hc) ?_ (fun i hi hc => ?_)
  ·exact rr [pk (Ai 3 ((L).length:Int) ((L).length:Int))]
  ·rw[Acn hc]
   exact (Lv L f z _ rfl hl i hi).2 hc
theorem FV (L : List Nd) (f : Bool) (z : Int) (hl : L.length ≤ 1000000000) : Sp Tryz.prog I 70 [trT c L f z] (li (rvc L f z)) := by
 have hc:=EL (I:=I) z;unfold rvc;by_cases h1:L.length < 1
 ·rw[if_pos (.inl h1)]
  exact sr 131 [pk (Al 44 103 3 9 ((L).map (Ac c)) ((L).length:Int)),pk (Ar 3 ((L).length:Int) 0)]
 ·by_cases h2 : 2000 < L.length
  ·rw[if_pos (.inr h2)]
   exact sr 131 [pk (Al 44 103 3 9 ((L).map (Ac c)) ((L).length:Int)),pk (Ag 3 ((L).length:Int) 0),pk (BY 3 ((L).length:Int) 2000)]
  ·rw [if_neg (by omega)]
   have hli:=Ym (I:=I) (c:=c) L f z (by omega)
   have hpa:=XU (I:=I) L (by omega) (by omega)
   cases hcb:BG z with
   | false =>
    rw[hcb] at hc;rw[if_pos (.inl rfl)];exact sr 131 [pk (Al 44 103 3 9 ((L).map (Ac c)) ((L).length:Int)),pk (Ag 3 ((L).length:Int) 0),pk (Au 3 ((L).length:Int) 2000),po (hc),pa]
   | true =>
    rw[hcb] at hc;obtain ⟨l1,l2,l3⟩:=SH (I:=I) (c:=c) L f z (by omega)
    have tail : ∀ (P0:AQ (BP L) L.length 0≠0→Sp Tryz.prog I 70 [trT c L f z] (li (AQ (BP L) L.length 0))) (P1:AQ (BP L) L.length 0=0→rpB L=false→Sp Tryz.prog I 70 [trT c L f z] (li 12)) (P2:AQ (BP L) L.length 0=0→rpB L=true→AQ (fun j=>bdC L (j+1)) (L.length - 1) 0≠0→Sp Tryz.prog I 70 [trT c L f z] (li (AQ (fun j=>bdC L (j+1)) (L.length - 1) 0)))
      (P3:AQ (BP L) L.length 0=0→rpB L=true→AQ (fun j=>bdC L (j+1)) (L.length - 1) 0=0→Sp Tryz.prog I 70 [trT c L f z] (li (AQ (rsC L f z) L.length 0))),Sp Tryz.prog I 70 [trT c L f z] (li (if AQ (BP L) L.length 0≠0 then AQ (BP L) L.length 0 else if rpB L=false then 12 else if AQ (fun j=>bdC L (j+1)) (L.length - 1) 0≠0 then AQ (fun j=>bdC L (j+1)) (L.length - 1) 0 else AQ (rsC L f z) L.length 0)):=by
     intro P0 P1 P2 P3;by_cases h5:AQ (BP L) L.length 0=0
     ·rw[if_neg (fun h=>h h5)]
      cases h6:rpB L with
      | false=>rw[if_pos rfl];exact P1 h5 h6
      | true =>
       rw[if_neg (by decide)]
       by_cases h7:AQ (fun j=>bdC L (j+1)) (L.length - 1) 0=0
       ·rw[if_neg (fun h=>h h7)];exact P3 h5 h6 h7
       ·rw[if_pos h7];exact P2 h5 h6 h7
     ·rw[if_pos h5];exact P0 h5
    cases f with
    | false =>
     by_cases hz:z=0
     ·rw[if_neg (by simp[hz])]
      refine tail (fun h5 => ?_) (fun h5 h6 => ?_) (fun h5 h6 h7 => ?_) (fun h5 h6 h7 => ?_)
      ·have lo:=l1.2 h5
       generalize AQ (BP L) L.length 0=r at *;exact sr 131 [pk (Al 44 103 3 9 ((L).map (Ac c)) ((L).length:Int)),pk (Ag 3 ((L).length:Int) 0),pk (Au 3 ((L).length:Int) 2000),po (hc),pa,pa,pk (Ao 3 z 0),pl (lo)]
      ·have lo:=l1.1 h5
       rw[h6] at hpa;exact sr 131 [pk (Al 44 103 3 9 ((L).map (Ac c)) ((L).length:Int)),pk (Ag 3 ((L).length:Int) 0),pk (Au 3 ((L).length:Int) 2000),po (hc),pa,pa,pk (Ao 3 z 0),pl (lo),po (hli),po (hpa),pa]
      ·have lo:=l1.1 h5
       have lo2:=(l2 (P7 h6) (by omega)).2 h7
       rw[h6] at hpa;generalize AQ (fun j=>bdC L (j+1)) (L.length - 1) 0=r at *
       exact sr 131 [pk (Al 44 103 3 9 ((L).map (Ac c)) ((L).length:Int)),pk (Ag 3 ((L).length:Int) 0),pk (Au 3 ((L).length:Int) 2000),po (hc),pa,pa,pk (Ao 3 z 0),pl (lo),po (hli),po (hpa),pa,pl (lo2)]
      ·have lo:=l1.1 h5
       have lo2:=(l2 (P7 h6) (by omega)).1 h7
       rw[h6] at hpa;by_cases h8:AQ (rsC L false z) L.length 0=0
       ·have lo3:=l3.1 h8
        rw[h8];exact sr 131 [pk (Al 44 103 3 9 ((L).map (Ac c)) ((L).length:Int)),pk (Ag 3 ((L).length:Int) 0),pk (Au 3 ((L).length:Int) 2000),po (hc),pa,pa,pk (Ao 3 z 0),pl (lo),po (hli),po (hpa),pa,pl (lo2),pl (lo3)]
       ·have lo3:=l3.2 h8
        generalize AQ (rsC L false z) L.length 0=r at *;exact sr 131 [pk (Al 44 103 3 9 ((L).map (Ac c)) ((L).length:Int)),pk (Ag 3 ((L).length:Int) 0),pk (Au 3 ((L).length:Int) 2000),po (hc),pa,pa,pk (Ao 3 z 0),pl (lo),po (hli),po (hpa),pa,pl (lo2),pl (lo3)]
     ·rw[if_pos (.inr ⟨rfl,hz⟩)]
      exact sr 131 [pk (Al 44 103 3 9 ((L).map (Ac c)) ((L).length:Int)),pk (Ag 3 ((L).length:Int) 0),pk (Au 3 ((L).length:Int) 2000),po (hc),pa,pa,pk (AI 3 z 0)]
    | true =>
     rw[if_neg (by simp)]
     refine tail (fun h5 => ?_) (fun h5 h6 => ?_) (fun h5 h6 h7 => ?_) (fun h5 h6 h7 => ?_)
     ·have lo:=l1.2 h5
      generalize AQ (BP L) L.length 0=r at *;exact sr 131 [pk (Al 44 103 3 9 ((L).map (Ac c)) ((L).length:Int)),pk (Ag 3 ((L).length:Int) 0),pk (Au 3 ((L).length:Int) 2000),po (hc),pa,pa,pl (lo)]
     ·have lo:=l1.1 h5
      rw[h6] at hpa;exact sr 131 [pk (Al 44 103 3 9 ((L).map (Ac c)) ((L).length:Int)),pk (Ag 3 ((L).length:Int) 0),pk (Au 3 ((L).length:Int) 2000),po (hc),pa,pa,pl (lo),po (hli),po (hpa),pa]
     ·have lo:=l1.1 h5
      have lo2:=(l2 (P7 h6) (by omega)).2 h7
      rw[h6] at hpa;generalize AQ (fun j=>bdC L (j+1)) (L.length - 1) 0=r at *
      exact sr 131 [pk (Al 44 103 3 9 ((L).map (Ac c)) ((L).length:Int)),pk (Ag 3 ((L).length:Int) 0),pk (Au 3 ((L).length:Int) 2000),po (hc),pa,pa,pl (lo),po (hli),po (hpa),pa,pl (lo2)]
     ·have lo:=l1.1 h5
      have lo2:=(l2 (P7 h6) (by omega)).1 h7
      rw[h6] at hpa;by_cases h8:AQ (rsC L true z) L.length 0=0
      ·have lo3:=l3.1 h8
       rw[h8];exact sr 131 [pk (Al 44 103 3 9 ((L).map (Ac c)) ((L).length:Int)),pk (Ag 3 ((L).length:Int) 0),pk (Au 3 ((L).length:Int) 2000),po (hc),pa,pa,pl (lo),po (hli),po (hpa),pa,pl (lo2),pl (lo3)]
      ·have lo3:=l3.2 h8
       generalize AQ (rsC L true z) L.length 0=r at *;exact sr 131 [pk (Al 44 103 3 9 ((L).map (Ac c)) ((L).length:Int)),pk (Ag 3 ((L).length:Int) 0),pk (Au 3 ((L).length:Int) 2000),po (hc),pa,pa,pl (lo),po (hli),po (hpa),pa,pl (lo2),pl (lo3)]
end
theorem EM {L:List Nd}{m:Nat}(h:prB L m=true):(tat L (2*m+1)).par=((pp L m:Nat):Int)∧(tat L (2*m+2)).par=((pp L m:Nat):Int)∧pp L m≤2*m∧(tat L (2*m+2)).fst=(tat L (2*m+1)).fst∧(tat L (2*m+2)).nxt=(tat L (2*m+1)).nxt:=by
 unfold prB at h;simp only[Bool.and_eq_true,decide_eq_true_eq] at h;obtain ⟨⟨⟨⟨⟨⟨⟨p1,p2⟩,p3⟩,p4⟩,p5⟩,_⟩,_⟩,_⟩:=h;have e:dcn (tat L (2*m+2))=((tat L (2*m+1)).fst,(tat L (2*m+1)).nxt,false):=p5;unfold dcn at e;injection e with e1 e2;injection e2 with e2 e3;unfold pp;refine ⟨by omega,by omega,by omega,e1,e2⟩
section
variable {L:List Nd}{M:Nat}(hn:L.length=2*M+1)(hp : ∀ m,m < M→prB L m=true)
include hn hp
theorem YX : ∀ m,m≤M → ∀ i,i≤2*m→iat (dlt L m) i=((Ba L i).length:Int):=by
 intro m;induction m with
 | zero =>
  intro _ i hi;have:i=0:=by omega
  subst this;rw[dlt,ES,Dw];rfl
 | succ m ih =>
  intro hm i hi;obtain ⟨p1,p2,p3,_,_⟩:=EM (hp m (by omega))
  have hl:=Kr L m;have hpp:=ih (by omega) (pp L m) p3
  have ea:(Ba L (2*m+1)).length=(Ba L (pp L m)).length+1:=by rw[Cw p1 (by omega),List.length_append];rfl
  have eb:(Ba L (2*m+2)).length=(Ba L (pp L m)).length+1:=by rw[Cw p2 (by omega),List.length_append];rfl
  rw[dlt,Kg (by rw[List.length_set];omega),Kg (by omega),if_pos rfl]
  by_cases h1:2*m+2=i
  ·rw[if_pos h1,←h1,eb,hpp];omega
  ·rw[if_neg h1,Kg (by omega)]
   by_cases h2:2*m+1=i
   ·rw[if_pos h2,←h2,ea,hpp];omega
   ·rw[if_neg h2];exact ih (by omega) i (by omega)
theorem AcR {m:Nat}(hm:m < M):iat (dlt L (m+1)) (2*m+1)=((Ba L (2*m+1)).length:Int):=YX hn hp (m+1) (by omega) _ (by omega)
theorem Ky {m:Nat}(hm:m < M)(i:Nat):iat (clt L (m+1)) i=if pp L m=i then iat (clt L m) i+2 else iat (clt L m) i:=by
 obtain ⟨p1,p2,p3,_,_⟩:=EM (hp m hm);rw[clt,Kg (by rw[Ew];omega)]
 by_cases h:pp L m=i
 ·rw[if_pos h,if_pos h,h]
 ·rw[if_neg h,if_neg h]
theorem Zp : ∀ m,m≤M → ∀ i,iat (clt L m) i % 2=0:=by
 intro m;induction m with
 | zero=>intro _ i;rw[clt,ES];rfl
 | succ m ih =>
  intro hm i;rw[Ky hn hp (by omega)]
  have:=ih (by omega) i
  split <;> omega
theorem Zo : ∀ m,m≤M → ∀ k,k≤m → ∀ i,iat (clt L k) i≤iat (clt L m) i:=by
 intro m;induction m with
 | zero=>intro _ k hk i;exact (show k=0 by omega)▸Int.le_refl _
 | succ m ih =>
  intro hm k hk i;by_cases h:k=m+1
  ·rw[h];exact Int.le_refl _
  ·have:=ih (by omega) k (by omega) i
   rw[Ky hn hp (by omega)]
   split <;> omega
theorem AaX (h : ∀ m,m < M→iat (clt L (m+1)) (pp L m)≤2) : ∀ m,m≤M → ∀ i,iat (clt L m) i≤2:=by
 intro m;induction m with
 | zero=>intro _ i;rw[clt,ES];omega
 | succ m ih =>
  intro hm i;by_cases hi:pp L m=i
  ·rw[←hi];exact h m (by omega)
  ·rw[Ky hn hp (by omega),if_neg hi];exact ih (by omega) i
end
def GH (D:List De):Prop:=D.Pairwise fun a b => ¬ (a.1=b.1∧a.2.1=b.2.1)
theorem Hw {D:List De}{i:Nat}(h:i < D.length):dat D i=D[i]:=by unfold dat;rw[List.getD_eq_getElem?_getD,List.getElem?_eq_getElem h];rfl
theorem U8 {D:List De}{k j:Nat}:inC D k j=0 ↔ ¬ ((dat D j).1=(dat D k).1∧(dat D j).2.1=(dat D k).2.1):=by
 unfold inC QF;by_cases h1:(dat D k).1=(dat D j).1
 ·by_cases h2:(dat D k).2.1=(dat D j).2.1
  ·simp[h1,h2]
  ·simp[h1,h2,Ne.symm h2]
 ·simp[h1,Ne.symm h1]
theorem Vr {D:List De}:AQ (miC D) D.length 0=0↔GH D:=by
 unfold GH;rw[Br,List.pairwise_iff_getElem];constructor
 ·intro h i j hi hj hij
  have h1:=h j (Nat.zero_le _) (by omega)
  unfold miC at h1;rw[Br] at h1;have h2:=U8.1 (h1 i (Nat.zero_le _) (by omega))
  rw[Hw hi,Hw hj] at h2;exact h2
 ·intro h k _ hk
  unfold miC;rw[Br];intro j _ hj;rw[U8,Hw (by omega),Hw (by omega)]
  exact h j k (by omega) (by omega) (by omega)
theorem Ei {D:List De}{x:De}:GH (D++[x])↔GH D ∧ ∀ d∈D,¬ (d.1=x.1∧d.2.1=x.2.1):=by
 unfold GH;rw[List.pairwise_append];constructor
 ·rintro ⟨h1,_,h3⟩
  exact ⟨h1,fun d hd=>h3 d hd x (by simp)⟩
 ·rintro ⟨h1,h2⟩
  refine ⟨h1,by simp,fun d hd y hy => ?_⟩
  simp at hy;subst hy;exact h2 d hd
theorem Kw {L:List Nd}{i:Nat}{f n:Int}:Ev L i f n=false ↔ ∀ d∈Ba L i,¬ (d.1=f∧d.2.1=n):=by
 unfold Ev Ba Cx;rw[List.any_eq_false];constructor
 ·intro h d hd
  rw[List.mem_reverse,List.mem_map] at hd;obtain ⟨x,hx,rfl⟩:=hd;have:=h x hx;simp at this;exact fun hh=>this hh.1 hh.2
 ·intro h x hx
  have:=h (dcn (tat L x)) (by rw[List.mem_reverse,List.mem_map];exact ⟨x,hx,rfl⟩)
  simp;exact fun h1 h2=>this ⟨h1,h2⟩
theorem LY {L:List Nd}{M:Nat}(hn:L.length=2*M+1){i:Nat}(hi:i < L.length):ouC L i=0↔iat (clt L M) i≤2∧((tat L i).st=1↔iat (clt L M) i=2)∧(Ba L i).length≤32∧GH (Ba L i):=by
 have hM2:L.length / 2=M:=by omega
 unfold ouC cpC;rw[hM2,←Vr];by_cases h1:2 < iat (clt L M) i
 ·rw[if_pos h1,if_pos (by decide)]
  exact ⟨fun h=>by omega,fun h=>by omega⟩
 ·rw[if_neg h1]
  by_cases h2:decide ((tat L i).st=1)=decide (iat (clt L M) i=2)
  ·rw[if_pos h2,if_neg (by simp)]
   have h2':(tat L i).st=1↔iat (clt L M) i=2:=by simpa using h2
   by_cases h3:32 < (Ba L i).length
   ·rw[if_pos h3]
    exact ⟨fun h=>by omega,fun h=>by omega⟩
   ·rw[if_neg h3]
    exact ⟨fun h=>⟨by omega,h2',by omega,h⟩,fun h=>h.2.2.2⟩
  ·rw[if_neg h2,if_pos (by decide)]
   exact ⟨fun h=>by omega,fun h=>absurd (by simpa using h.2.1) h2⟩
section
variable {L:List Nd}{M:Nat}(hn:L.length=2*M+1)(hp : ∀ m,m < M→prB L m=true)
include hn hp
theorem Ow : (∀ i, i < L.length → GH (Ba L i)) ↔ ∀ m, m < M → Ev L (pp L m) (tat L (2 * m + 1)).fst (tat L (2 * m + 1)).nxt = false := by
 constructor
 ·intro h m hm
  obtain ⟨p1,p2,p3,_,_⟩:=EM (hp m hm);have:=h (2*m+1) (by omega)
  rw[Cw p1 (by omega),Ei] at this
  exact Kw.2 this.2
 ·intro h i
  induction i using Nat.strongRecOn with
  | _ i ih =>
   intro hi;by_cases h0:i=0
   ·subst h0;rw[Dw];exact List.Pairwise.nil
   ·obtain ⟨m,hm⟩ : ∃ m,i=2*m+1∨i=2*m+2:=⟨(i - 1) / 2,by omega⟩
    have hmM:m < M:=by omega
    obtain ⟨p1,p2,p3,p4,p5⟩:=EM (hp m hmM);have hd:=Kw.1 (h m hmM);rcases hm with rfl | rfl
    ·rw[Cw p1 (by omega),Ei]
     exact ⟨ih _ (by omega) (by omega),hd⟩
    ·rw[Cw p2 (by omega),Ei]
     refine ⟨ih _ (by omega) (by omega),fun d hd' => ?_⟩
     have:=hd d hd';show ¬ (d.1=(tat L (2*m+2)).fst∧d.2.1=(tat L (2*m+2)).nxt);rw[p4,p5];exact this
theorem J5:(∀ j,j < L.length - 1→bdC L (j+1)=0) ↔ ∀ m,m < M→(tat L (pp L m)).q≤(tat L (2*m+1)).q∧(tat L (pp L m)).q≤(tat L (2*m+2)).q:=by
 have key : ∀ i p:Nat,(tat L i).par=(p:Int)→(bdC L i=0↔(tat L p).q≤(tat L i).q):=by
  intro i p h;unfold bdC;rw[show (tat L i).par.toNat=p by omega]
  by_cases hq:(tat L i).q < (tat L p).q
  ·rw[if_pos hq]
   exact ⟨fun h=>by omega,fun h=>by exfalso;grind⟩
  ·rw[if_neg hq]
   exact ⟨fun _=>by grind,fun _=>rfl⟩
 constructor
 ·intro h m hm
  obtain ⟨p1,p2,p3,_,_⟩:=EM (hp m hm);exact ⟨(key _ _ p1).1 (h (2*m) (by omega)),(key _ _ p2).1 (h (2*m+1) (by omega))⟩
 ·intro h j hj
  obtain ⟨m,hm⟩ : ∃ m,j=2*m∨j=2*m+1:=⟨j / 2,by omega⟩
  have hmM:m < M:=by omega
  obtain ⟨p1,p2,p3,_,_⟩:=EM (hp m hmM);rcases hm with rfl | rfl
  ·exact (key _ _ p1).2 (h m hmM).1
  ·exact (key _ _ p2).2 (h m hmM).2
theorem O0 : ((∀ m, m < M → spB L m = true) ∧ ∀ i, i < L.length → chB L i = true) ↔ ((∀ i, i < L.length → ouC L i = 0) ∧ ∀ j, j < L.length - 1 → bdC L (j + 1) = 0) := by
 have hM2:L.length / 2=M:=by omega
 have sp : ∀ m,m < M→(spB L m=true↔((Ba L (2*m+1)).length:Int)≤32∧iat (clt L (m+1)) (pp L m)≤2∧Ev L (pp L m) (tat L (2*m+1)).fst (tat L (2*m+1)).nxt=false∧(tat L (pp L m)).q≤(tat L (2*m+1)).q∧(tat L (pp L m)).q≤(tat L (2*m+2)).q):=by
  intro m hm;unfold spB;rw[AcR hn hp hm];simp only[Bool.and_eq_true,decide_eq_true_eq,Bool.not_eq_true'];exact ⟨fun ⟨⟨⟨⟨a,b⟩,c⟩,d⟩,e⟩=>⟨a,b,c,d,e⟩,fun ⟨a,b,c,d,e⟩=>⟨⟨⟨⟨a,b⟩,c⟩,d⟩,e⟩⟩
 have ch : ∀ i,(chB L i=true↔((tat L i).st=1↔0 < iat (clt L M) i)):=by
  intro i;unfold chB;rw[hM2];by_cases h1:(tat L i).st=1 <;> by_cases h2:0 < iat (clt L M) i <;> simp[h1,h2]
 have two : ∀ i,iat (clt L M) i≤2→(0 < iat (clt L M) i↔iat (clt L M) i=2):=by
  intro i h;have h1:=Zp hn hp M (Nat.le_refl _) i;have h2:=(Qt L M i).1;omega
 rw[J5 hn hp];constructor
 ·rintro ⟨h1,h2⟩
  have hs:=fun m hm=>(sp m hm).1 (h1 m hm)
  have c2:=AaX hn hp (fun m hm=>(hs m hm).2.1) M (Nat.le_refl _)
  have tw:=(Ow hn hp).2 fun m hm=>(hs m hm).2.2.1
  refine ⟨fun i hi=>(LY hn hi).2 ⟨c2 i,?_,?_,tw i hi⟩,fun m hm=>(hs m hm).2.2.2⟩
  ·rw[←two i (c2 i)];exact (ch i).1 (h2 i hi)
  ·by_cases h0:i=0
   ·subst h0;rw[Dw];exact Nat.zero_le _
   ·obtain ⟨m,hm⟩ : ∃ m,i=2*m+1∨i=2*m+2:=⟨(i - 1) / 2,by omega⟩
    have hmM:m < M:=by omega
    obtain ⟨p1,p2,p3,p4,p5⟩:=EM (hp m hmM);have:=(hs m hmM).1;rcases hm with rfl | rfl
    ·omega
    ·have ea:(Ba L (2*m+1)).length=(Ba L (pp L m)).length+1:=by rw[Cw p1 (by omega),List.length_append];rfl
     have eb:(Ba L (2*m+2)).length=(Ba L (pp L m)).length+1:=by rw[Cw p2 (by omega),List.length_append];rfl
     omega
 ·rintro ⟨h1,h2⟩
  have ho:=fun i hi=>(LY hn (i:=i) hi).1 (h1 i hi)
  have tw:=(Ow hn hp).1 fun i hi=>(ho i hi).2.2.2
  refine ⟨fun m hm=>(sp m hm).2 ⟨?_,?_,tw m hm,h2 m hm⟩,fun i hi=>(ch i).2 ?_⟩
  ·have:=(ho (2*m+1) (by omega)).2.2.1
   omega
  ·obtain ⟨p1,p2,p3,p4,p5⟩:=EM (hp m hm)
   have:=(ho (pp L m) (by omega)).1
   have:=Zo hn hp M (Nat.le_refl _) (m+1) (by omega) (pp L m)
   omega
  ·rw[two i (ho i hi).1];exact (ho i hi).2.1
end
theorem Ub {L:List Nd}:shB L=true↔(rpB L=true∧AQ (fun j=>bdC L (j+1)) (L.length - 1) 0=0):=by
 unfold shB rpB;simp only[Bool.and_eq_true,List.all_eq_true,List.mem_range,decide_eq_true_eq,Br];constructor
 ·rintro ⟨⟨h1,h2⟩,h3⟩
  have hr:=h1;unfold rtB at hr;simp only[Bool.and_eq_true,decide_eq_true_eq] at hr;have hn:L.length=2*(L.length / 2)+1:=by omega
  have:=(O0 hn (fun m hm=>(h2 m hm).1)).1 ⟨fun m hm=>(h2 m hm).2,h3⟩
  exact ⟨⟨⟨h1,fun m hm=>(h2 m hm).1⟩,fun j _ hj=>this.1 j (by omega)⟩,fun j _ hj=>this.2 j (by omega)⟩
 ·rintro ⟨⟨⟨h1,h2⟩,h3⟩,h4⟩
  have hr:=h1;unfold rtB at hr;simp only[Bool.and_eq_true,decide_eq_true_eq] at hr;have hn:L.length=2*(L.length / 2)+1:=by omega
  have:=(O0 hn h2).2 ⟨fun i hi=>h3 i (Nat.zero_le _) (by omega),fun j hj=>h4 j (Nat.zero_le _) (by omega)⟩
  exact ⟨⟨h1,fun m hm=>⟨h2 m hm,this.1 m hm⟩⟩,this.2⟩
theorem L9 {a b:Nat→Int} : ∀ {n i:Nat},(∀ j,i≤j→j < i+n→a j=b j)→AQ a n i=AQ b n i
 | 0,_,_=>rfl
 | n+1,i,h=>by
  unfold AQ;rw[h i (Nat.le_refl _) (by omega),L9 fun j h1 h2=>h j (by omega) (by omega)]
theorem SG (L : List Nd) (f : Bool) (z : Int) : rvc L f z = tvc L f z := by
 unfold rvc tvc;by_cases h1:L.length < 1∨2000 < L.length
 ·rw[if_pos h1,if_pos h1]
 ·rw [if_neg h1, if_neg h1]
  by_cases h2:BG z=false∨(z≠0∧f=false)
  ·rw[if_pos h2,if_pos (h2.imp id And.symm)]
  ·rw [if_neg h2, if_neg (fun h => h2 (h.imp id And.symm))]
   by_cases h3:AQ (BP L) L.length 0≠0
   ·rw[if_pos h3,if_pos h3]
   ·rw[if_neg h3,if_neg h3]
    have h3:AQ (BP L) L.length 0=0:=Decidable.not_not.1 h3;have hst:AQ (rsC L f z) L.length 0=AQ (Ef L f z) L.length 0:=L9 fun j _ hj=>by
     have ho:=Br.1 h3 j (Nat.zero_le _) hj;have hok:okc (tat L j).q=true:=by
      unfold BP at ho;split at ho
      ·omega
      ·cases hk:okc (tat L j).q with
       | true=>rfl
       | false=>rw[hk] at ho;exact absurd ho (by decide)
     unfold rsC Ef Q1 DH;rw[hok,Bool.true_and]
    have hs:=Ub (L:=L);cases hr:rpB L with
    | false =>
     rw[if_pos rfl];have:shB L=false:=by
      cases hsb:shB L with
      | false=>rfl
      | true=>have:=(hs.1 hsb).1;rw[hr] at this;cases this
     rw[this,if_pos rfl]
    | true =>
     rw[if_neg (by decide)]
     by_cases hb:AQ (fun j=>bdC L (j+1)) (L.length - 1) 0=0
     ·rw[if_neg (fun h=>h hb),hs.2 ⟨hr,hb⟩,if_neg (by decide),hst]
     ·have:shB L=false:=by
       cases hsb:shB L with
       | false=>rfl
       | true=>exact absurd (hs.1 hsb).2 hb
      rw[if_pos hb,this,if_pos rfl];obtain ⟨j,_,_,_,hj⟩:=Nw hb;rw[←hj];exact Z1 (by rw[hj];exact hb)
section
variable {I:WInv}{c c':Bool}{q:Rat}
theorem Acl:Sp Tryz.prog I 55 [fc true 12 q,fc true 12 q] (lb true):=by
 have h:Sp Tryz.prog I 55 [.ag (ik 12 q.num++ik 12 (q.den:Int)),.ag (ik 12 q.num++ik 12 (q.den:Int))] (lb true):=sr 17 [po (P6 (I:=I) (k:=12) (j:=12) (a:=q.num) (b:=q.num) true (decide_eq_true rfl)),po (P6 (I:=I) (k:=12) (j:=12) (a:=(q.den:Int)) (b:=(q.den:Int)) true (decide_eq_true rfl))];exact h.wk ⟨CN,CN,trivial⟩
def Ab1 (L:List Nd)(f:Bool)(z:Int)(i:Int):Go.Proofs.YtdgbealknnmkoaaGreatDoor.St:=⟨[(2,.p 0 0),(3,.p 1 0),(5,.i i)],[(0,some ⟨46,none,[.b (.it (slI 9 ((L).map (Ac true)))),.o f,.i z]⟩),(1,some ⟨46,none,[.b (.it (slI 9 ((L).map (Ac true)))),.o f,.i z]⟩)],50⟩
theorem QW (L:List Nd)(f:Bool)(z:Int)(hl:L.length≤100000):Sp Tryz.prog I 31 [trT true L f z,trT true L f z] (lb true):=by
 have lo:LoopTr Tryz.prog I 73 (AK Tryz.prog 31 0) (Ab1 L f z ((0:Nat):Int)) (.exit 0) ⟨[],[],50⟩:=Bq (by simp) (fun i=>Ab1 L f z (i:Int)) L.length (fun i hi=>by
  exact rr [pk (Al 44 103 3 9 ((L).map (Ac true)) ((L).length:Int)),pk (Ak 3 (i:Int) ((L).length:Int)),pk (Aj 44 103 9 ((L).map (Ac true)) i (i:Int) ((Ac true) (tat L i)) (An hi)),pk (Aj 44 103 9 ((L).map (Ac true)) i (i:Int) ((Ac true) (tat L i)) (An hi)),pk (D3 3 ((tat L i).par) ((tat L i).par) false (decide_eq_true rfl)),pk (Cy (dcn (tat L i)) (dcn (tat L i)) false (decide_eq_true rfl)),pk (D3 3 ((tat L i).st) ((tat L i).st) false (decide_eq_true rfl)),po (Acl (I:=I) (q:=(tat L i).q)),pa,pk (Ay 3 (i:Int) 1 ⟨by omega,by omega⟩)]) (by
  exact rr [pk (Al 44 103 3 9 ((L).map (Ac true)) ((L).length:Int)),pk (Ai 3 (L.length:Int) ((L).length:Int))])
 cases f with
 | false=>exact sr 73 [pk (Al 44 103 3 9 ((L).map (Ac true)) ((L).length:Int)),pk (Al 44 103 3 9 ((L).map (Ac true)) ((L).length:Int)),pk (D3 3 ((L).length:Int) ((L).length:Int) false (decide_eq_true rfl)),pa,pk (D3 3 z z false (decide_eq_true rfl)),pl (lo)]
 | true=>exact sr 73 [pk (Al 44 103 3 9 ((L).map (Ac true)) ((L).length:Int)),pk (Al 44 103 3 9 ((L).map (Ac true)) ((L).length:Int)),pk (D3 3 ((L).length:Int) ((L).length:Int) false (decide_eq_true rfl)),pa,pk (D3 3 z z false (decide_eq_true rfl)),pl (lo)]
def UN (c:Bool)(L:List Nd)(f:Bool)(z:Int):Nat→Go.Proofs.YtdgbealknnmkoaaGreatDoor.St
 | 0=>⟨[(1,.p 3 0),(2,.p 4 0),(3,.p 10 0),(4,.i ((0:Nat):Int))],[(10,some ⟨46,none,[.z,.o f,.i z]⟩),(3,some ⟨46,none,[.b (.it (slI 9 ((L).map (Ac c)))),.o f,.i z]⟩),(4,some ⟨46,none,[.z,.o false,.i 0]⟩)],50⟩
 | i+1=>⟨[(1,.p 3 0),(2,.p 4 0),(3,.p 10 0),(4,.i ((i+1:Nat):Int))],[(40,some ⟨103,some (9,i+1),Aa ((Cl L id (i+1)).map (Ac true))⟩),(10,some ⟨46,none,[.sl 40,.o f,.i z]⟩),(3,some ⟨46,none,[.b (.it (slI 9 ((L).map (Ac c)))),.o f,.i z]⟩),(4,some ⟨46,none,[.z,.o false,.i 0]⟩)],50⟩
theorem TA (L:List Nd)(f:Bool)(z:Int)(i:Nat)(hi:i < L.length)(hl:L.length≤2002):Rnd Tryz.prog I 34 (AK Tryz.prog 71 0) (UN c L f z i) .normal (UN c L f z (i+1)):=by
 cases i with
 | zero =>
  obtain ⟨i,h0⟩ : ∃ i,i=0:=⟨0,rfl⟩;have e1:Cl L id 0=[]:=rfl;show Rnd Tryz.prog I _ _ ⟨[(1,.p 3 0),(2,.p 4 0),(3,.p 10 0),(4,.i ((0:Nat):Int))],[(10,some ⟨46,none,[.z,.o f,.i z]⟩),(3,some ⟨46,none,[.b (.it (slI 9 ((L).map (Ac c)))),.o f,.i z]⟩),(4,some ⟨46,none,[.z,.o false,.i 0]⟩)],50⟩ _ ⟨[(1,.p 3 0),(2,.p 4 0),(3,.p 10 0),(4,.i ((0+1:Nat):Int))],[(40,some ⟨103,some (9,1),Aa ((Cl L id (0+1)).map (Ac true))⟩),(10,some ⟨46,none,[.sl 40,.o f,.i z]⟩),(3,some ⟨46,none,[.b (.it (slI 9 ((L).map (Ac c)))),.o f,.i z]⟩),(4,some ⟨46,none,[.z,.o false,.i 0]⟩)],50⟩;exact Rnd.nam [(40,71)] (show Rnd _ _ _ _ _ _ ⟨[(1,.p 3 0),(2,.p 4 0),(3,.p 10 0),(4,.i ((0+1:Nat):Int))],[(71,some ⟨103,some (9,1),[.i ((tat L 0).par),.i ((tat L 0).fst),.i ((tat L 0).nxt),.o ((tat L 0).tog),.b (.it (fF true 12 ((tat L 0).q))),.i ((tat L 0).st)]⟩),(10,some ⟨46,none,[.sl 71,.o f,.i z]⟩),(3,some ⟨46,none,[.b (.it (slI 9 ((L).map (Ac c)))),.o f,.i z]⟩),(4,some ⟨46,none,[.z,.o false,.i 0]⟩)],77⟩ from rr [pk (Al 44 103 3 9 ((L).map (Ac c)) ((L).length:Int)),pk (Ak 3 0 ((L).length:Int)),pk (Aj 44 103 9 ((L).map (Ac c)) 0 0 ((Ac c) (tat L 0)) (An hi)),po (BJ (I:=I) (c:=c) (k:=12) (p:=(tat L 0).q) (by omega)),⟨.ap 0 1 104,⟨by omega,by simp only[maxLen];omega⟩⟩,pa]) (t:=⟨[(1,.p 3 0),(2,.p 4 0),(3,.p 10 0),(4,.i ((0+1:Nat):Int))],[(40,some ⟨103,some (9,1),Aa ((Cl L id (0+1)).map (Ac true))⟩),(10,some ⟨46,none,[.sl 40,.o f,.i z]⟩),(3,some ⟨46,none,[.b (.it (slI 9 ((L).map (Ac c)))),.o f,.i z]⟩),(4,some ⟨46,none,[.z,.o false,.i 0]⟩)],50⟩) ⟨rfl,TVle.refl,rfl,TVle.refl,rfl,TVle.refl,rfl,TVle.refl,trivial⟩ ⟨rfl,rfl,rfl,ILe.eq (show [.i ((tat L 0).par),.i ((tat L 0).fst),.i ((tat L 0).nxt),.o ((tat L 0).tog),.b (.it (fF true 12 ((tat L 0).q))),.i ((tat L 0).st)]=Aa ((Cl L id (0+1)).map (Ac true)) from rfl),rfl,rfl,rfl,ILe.refl,rfl,rfl,rfl,ILe.refl,rfl,rfl,rfl,ILe.refl,trivial⟩
 | succ i =>
  show Rnd Tryz.prog I _ _ ⟨[(1,.p 3 0),(2,.p 4 0),(3,.p 10 0),(4,.i ((i+1:Nat):Int))],[(40,some ⟨103,some (9,i+1),Aa ((Cl L id (i+1)).map (Ac true))⟩),(10,some ⟨46,none,[.sl 40,.o f,.i z]⟩),(3,some ⟨46,none,[.b (.it (slI 9 ((L).map (Ac c)))),.o f,.i z]⟩),(4,some ⟨46,none,[.z,.o false,.i 0]⟩)],50⟩ _ ⟨[(1,.p 3 0),(2,.p 4 0),(3,.p 10 0),(4,.i ((i+1+1:Nat):Int))],[(40,some ⟨103,some (9,i+1+1),Aa ((Cl L id (i+1+1)).map (Ac true))⟩),(10,some ⟨46,none,[.sl 40,.o f,.i z]⟩),(3,some ⟨46,none,[.b (.it (slI 9 ((L).map (Ac c)))),.o f,.i z]⟩),(4,some ⟨46,none,[.z,.o false,.i 0]⟩)],50⟩;exact Rnd.nam [(40,71)] (show Rnd _ _ _ _ _ _ ⟨[(1,.p 3 0),(2,.p 4 0),(3,.p 10 0),(4,.i ((i+1+1:Nat):Int))],[(71,some ⟨103,some (9,i+1+1),(Aa ((Cl L id (i+1)).map (Ac true)))++([.i ((tat L (i+1)).par),.i ((tat L (i+1)).fst),.i ((tat L (i+1)).nxt),.o ((tat L (i+1)).tog),.b (.it (fF true 12 ((tat L (i+1)).q))),.i ((tat L (i+1)).st)])⟩),(10,some ⟨46,none,[.sl 71,.o f,.i z]⟩),(3,some ⟨46,none,[.b (.it (slI 9 ((L).map (Ac c)))),.o f,.i z]⟩),(4,some ⟨46,none,[.z,.o false,.i 0]⟩)],77⟩ from rr [pk (Al 44 103 3 9 ((L).map (Ac c)) ((L).length:Int)),pk (Ak 3 ((i+1:Nat):Int) ((L).length:Int)),pk (Aj 44 103 9 ((L).map (Ac c)) (i+1) ((i+1:Nat):Int) ((Ac c) (tat L (i+1))) (An hi)),po (BJ (I:=I) (c:=c) (k:=12) (p:=(tat L (i+1)).q) (by omega)),⟨.ap (i+1) 1 104,⟨by omega,by simp only[maxLen];omega⟩⟩,pk (Ay 3 ((i+1:Nat):Int) 1 ⟨by omega,by omega⟩)]) (t:=⟨[(1,.p 3 0),(2,.p 4 0),(3,.p 10 0),(4,.i ((i+1+1:Nat):Int))],[(40,some ⟨103,some (9,i+1+1),Aa ((Cl L id (i+1+1)).map (Ac true))⟩),(10,some ⟨46,none,[.sl 40,.o f,.i z]⟩),(3,some ⟨46,none,[.b (.it (slI 9 ((L).map (Ac c)))),.o f,.i z]⟩),(4,some ⟨46,none,[.z,.o false,.i 0]⟩)],50⟩) ⟨rfl,TVle.refl,rfl,TVle.refl,rfl,TVle.refl,rfl,TVle.refl,trivial⟩ ⟨rfl,rfl,rfl,ILe.eq (show (Aa ((Cl L id (i+1)).map (Ac true)))++([.i ((tat L (i+1)).par),.i ((tat L (i+1)).fst),.i ((tat L (i+1)).nxt),.o ((tat L (i+1)).tog),.b (.it (fF true 12 ((tat L (i+1)).q))),.i ((tat L (i+1)).st)])=Aa ((Cl L id (i+1+1)).map (Ac true)) from (by rw[DT L id (i+1),List.map_append,C6];rfl)),rfl,rfl,rfl,ILe.refl,rfl,rfl,rfl,ILe.refl,rfl,rfl,rfl,ILe.refl,trivial⟩
theorem Sl (L:List Nd)(f:Bool)(z:Int)(h0:0 < L.length)(hl:L.length≤2002):SpM Tryz.prog I 71 [] [trT c L f z] [(2,some (nbx true L L.length))] (.cv (.ag [.sl 2,.o f,.i z])):=by
 have lo:LoopTr Tryz.prog I 34 (AK Tryz.prog 71 0) (UN c L f z 0) (.exit 0) ⟨[(2,.p 4 0),(3,.p 10 0)],[(40,some ⟨103,some (9,L.length),Aa ((L).map (Ac true))⟩),(10,some ⟨46,none,[.sl 40,.o f,.i z]⟩),(4,some ⟨46,none,[.z,.o false,.i 0]⟩)],50⟩:=Bq (by simp) (UN c L f z) L.length (fun i hi=>TA L f z i hi hl) (by
  obtain ⟨m,hm⟩ : ∃ m,L.length=m+1:=⟨L.length - 1,by omega⟩
  have e:Cl L id (m+1)=L:=by rw[←hm];exact (ET L id).trans (List.map_id L)
  rw[hm];show Rnd Tryz.prog I _ _ ⟨[(1,.p 3 0),(2,.p 4 0),(3,.p 10 0),(4,.i ((m+1:Nat):Int))],[(40,some ⟨103,some (9,m+1),Aa ((Cl L id (m+1)).map (Ac true))⟩),(10,some ⟨46,none,[.sl 40,.o f,.i z]⟩),(3,some ⟨46,none,[.b (.it (slI 9 ((L).map (Ac c)))),.o f,.i z]⟩),(4,some ⟨46,none,[.z,.o false,.i 0]⟩)],50⟩ _ _;rw[e];exact Rnd.nam [] (show Rnd _ _ _ _ _ _ ⟨[(2,.p 4 0),(3,.p 10 0)],[(40,some ⟨103,some (9,m+1),Aa ((L).map (Ac true))⟩),(10,some ⟨46,none,[.sl 40,.o f,.i z]⟩),(4,some ⟨46,none,[.z,.o false,.i 0]⟩)],55⟩ from rr [pk (Al 44 103 3 9 ((L).map (Ac c)) ((L).length:Int)),pk (Ai 3 ((m+1:Nat):Int) ((L).length:Int))]) (t:=⟨[(2,.p 4 0),(3,.p 10 0)],[(40,some ⟨103,some (9,m+1),Aa ((L).map (Ac true))⟩),(10,some ⟨46,none,[.sl 40,.o f,.i z]⟩),(4,some ⟨46,none,[.z,.o false,.i 0]⟩)],50⟩) ⟨rfl,TVle.refl,rfl,TVle.refl,trivial⟩ ⟨rfl,rfl,rfl,ILe.refl,rfl,rfl,rfl,ILe.refl,rfl,rfl,rfl,ILe.refl,trivial⟩)
 generalize L.length=n at *;exact sm 34 [pl (lo),pm ((show Leads I _ ⟨[(2,.p 4 0),(3,.p 10 0)],[(40,some ⟨103,some (9,n),Aa ((L).map (Ac true))⟩),(10,some ⟨46,none,[.sl 40,.o f,.i z]⟩),(4,some ⟨46,none,[.z,.o false,.i 0]⟩)],50⟩ ⟨[(2,.p 4 0),(3,.p 10 0)],[(2,some ⟨103,some (9,n),Aa ((L).map (Ac true))⟩),(10,some ⟨46,none,[.sl 2,.o f,.i z]⟩),(4,some ⟨46,none,[.z,.o false,.i 0]⟩)],50⟩ from AL [(2,40)] ⟨rfl,TVle.refl,rfl,TVle.refl,trivial⟩ ⟨rfl,rfl,rfl,ILe.refl,rfl,rfl,rfl,ILe.refl,rfl,rfl,rfl,ILe.refl,trivial⟩))]
theorem Uj (q:Rat):Sp Tryz.prog I 28 [fc c 12 q] (.cv (trT true (CS q) false 0)):=by
 have h:SpM Tryz.prog I 28 [] [fc c 12 q] [(2,some (nbx true (CS q) 1))] (.cv (.ag [.sl 2,.o false,.i 0])):=sm 8 [po (BJ (I:=I) (c:=c) (k:=12) (p:=q) (by omega)),pm ((show Leads I _ ⟨[(2,.p 4 0)],[(8,some ⟨103,some (9,1),[.i (-1),.i 0,.i 0,.o false,.b (.it (fF true 12 q)),.i 0]⟩),(4,some ⟨46,none,[.sl 8,.o false,.i 0]⟩)],11⟩ ⟨[(2,.p 4 0)],[(2,some ⟨103,some (9,1),[.i (-1),.i 0,.i 0,.o false,.b (.it (fF true 12 q)),.i 0]⟩),(4,some ⟨46,none,[.sl 2,.o false,.i 0]⟩)],11⟩ from AL [(2,8)] ⟨rfl,TVle.refl,trivial⟩ ⟨rfl,rfl,rfl,ILe.refl,rfl,rfl,rfl,ILe.refl,trivial⟩))]
 exact h.freeze rfl EH rfl
end
section
variable {P:Program}{I:WInv}{c c':Bool}
theorem SpM.sp {f:FuncId}{args:List CT}{res:TV}(h:SpM P I f [] args [] res)(hok:res.noPtr=true):Sp P I f args res:=by
 intro N w vs hI hlow hargs;refine (h N (fun b=>b < w.heap.size) w G0 vs hI hlow (fun b hb=>hb) (fun k e he=>by cases he) (fun k j e e' b he=>by cases he) (fun k _=>rfl) hargs).mono ?_
 rintro en w' ⟨v,N',g',rfl,q1,q2,q3,q4,q5,q6,q7⟩;exact ⟨v,rfl,TV.noPtr_sem hok (TV.step q7 (WStep.refl _ _) (fun b hb=>(q2 b hb).imp id fun h=>⟨Nat.not_lt.1 h.1,h.2⟩) (GExt.refl _)),Mn q3⟩
theorem Aau (L:List Nd)(f:Bool)(z:Int)(i:Nat)(hi:i < L.length)(r:Int)(hr:(if (tat L i).st=0 then 0 else 16)=r):Sp Tryz.prog I 73 [trT c L f z,ci (i:Int)] (li r):=by
 subst hr;by_cases h:(tat L i).st=0
 ·rw[if_pos h]
  exact sr 12 [pk (Aj 44 103 9 ((L).map (Ac c)) i (i:Int) ((Ac c) (tat L i)) (An hi)),pk (D3 3 ((tat L i).st) 0 false (decide_eq_true h))]
 ·rw[if_neg h]
  exact sr 12 [pk (Aj 44 103 9 ((L).map (Ac c)) i (i:Int) ((Ac c) (tat L i)) (An hi)),pk (D3 3 ((tat L i).st) 0 true (decide_eq_false h))]
theorem En {L:List Nd}(f:Bool)(z:Int)(n:Nat)(hn:L.length=n)(i:Nat)(hi:i < L.length)(r:Int)(hr:(if (tat L i).st=0 then 0 else 16)=r):SpM Tryz.prog I 73 [(0,some (nbx c L n))] [.ag [.sl 0,.o f,.i z],ci (i:Int)] [(0,some (nbx c L n))] (li r) :=
 Lp (args:=[.ag [.sl 0,.o f,.i z],ci (i:Int)]) (Aau L f z i hi r hr) (by rw[List.length_map];exact hn.symm) EH rfl GM rfl
theorem GZ {L:List Nd}(f:Bool)(z:Int)(n:Nat)(hn:L.length=n)(q:Rat)(r:Bool)(hr:Q1 f z q=r):SpM Tryz.prog I 77 [(0,some (nbx c L n))] [.ag [.sl 0,.o f,.i z],fc c 12 q] [(0,some (nbx c L n))] (lb r) :=
 Lp (args:=[.ag [.sl 0,.o f,.i z],fc c 12 q]) (by rw[←hr];exact OY L f z q) (by rw[List.length_map];exact hn.symm) EH rfl GM rfl
def RB (c:Bool)(L:List Nd)(n:Nat)(f:Bool)(z:Int)(i:Nat):Go.Proofs.YtdgbealknnmkoaaGreatDoor.St:=⟨[(1,.p 3 0),(5,.s 40),(6,.s 41),(7,.s 42),(8,.i (i:Int))],[(40,some ⟨3,some (1,i),Aa ((Cl L (·.par) i).map Ae)⟩),(41,some ⟨101,some (3,i),Aa ((Cl L dcn i).map AA)⟩),(42,some ⟨4,some (1,i),Aa ((Cl L (fun x=>decide (x.st=1)) i).map Bl)⟩),(3,some ⟨46,none,[.sl 0,.o f,.i z]⟩),(0,some ⟨103,some (9,n),Aa ((L).map (Ac c))⟩)],50⟩
def Z5 (k:Nat):Bxs→Bool
 | []=>true
 | (j,some e)::r => !Nat.beq j k&&(e.sl.isSome||e.its.all (It.av k))&&Z5 k r
 | (_,none)::r=>Z5 k r
theorem TF {k:Nat} : ∀ {B:Bxs},Z5 k B=true→NpB B→avB k B=true
 | [],_,_=>rfl
 | (j,none)::r,h,hn=>TF (B:=r) h hn
 | (j,some e)::r,h,hn=>by
  simp only[Z5,avB,Bool.and_eq_true] at h ⊢;refine ⟨⟨h.1.1,?_⟩,TF h.2 hn.2⟩;rw[Bool.or_eq_true] at h;refine h.1.2.elim (fun hs => ?_) id
  have:=hn.1 hs;rw[List.all_eq_true] at this ⊢;intro x hx;have:=this x hx;cases x with
  | b _=>rfl
  | fp _=>rfl
  | ptr _ _=>cases this
  | sl _=>cases this
  | clo _ _=>cases this
theorem Gb {nt t k nx:Nat}{E:Env}{B:Bxs}(T s:Nat)(h:look E t=some (B0 (.slice none 0 0)))(hnp:NpB B)(h1:(avE k E&&Z5 k B&&Nat.blt k nx&&(Nat.beq k 2||Nat.ble 4 k))=true)(hB:AE B nx=none):Leads I nt ⟨E,B,nx⟩ ⟨(t,.s k)::E,(k,some ⟨T,some (s,0),[]⟩)::B,nx+1⟩:=by
 refine Gc T s h ?_ hB;simp only[Bool.and_eq_true] at h1 ⊢;exact ⟨⟨⟨h1.1.1.1,TF h1.1.1.2 hnp⟩,h1.1.2⟩,h1.2⟩
theorem SY (L:List Nd)(n:Nat)(f:Bool)(z:Int):Leads I 47 ⟨[(1,.p 3 0),(5,.cv (.one (.z))),(6,.cv (.one (.z))),(7,.cv (.one (.z))),(8,.i 0)],[(3,some ⟨46,none,[.sl 0,.o f,.i z]⟩),(0,some ⟨103,some (9,n),Aa ((L).map (Ac c))⟩)],47⟩ (RB c L n f z 0) :=
 (Gb (t:=5) (k:=40) 3 1 rfl (by repeat' first | exact trivial | exact fun h=>absurd h Bool.false_ne_true | exact fun _=>Aw _ | exact fun _=>rfl | exact fun _=>BU (Aw _) rfl | refine ⟨?_,?_⟩) rfl rfl).trans ((Gb (t:=6) (k:=41) 101 3 rfl (by repeat' first | exact trivial | exact fun h=>absurd h Bool.false_ne_true | exact fun _=>Aw _ | exact fun _=>rfl | exact fun _=>BU (Aw _) rfl | refine ⟨?_,?_⟩) rfl rfl).trans ((Gb (t:=7) (k:=42) 4 1 rfl (by repeat' first | exact trivial | exact fun h=>absurd h Bool.false_ne_true | exact fun _=>Aw _ | exact fun _=>rfl | exact fun _=>BU (Aw _) rfl | refine ⟨?_,?_⟩) rfl rfl).trans (Ju ⟨rfl,rfl,rfl,rfl,rfl,trivial⟩ ⟨rfl,rfl,rfl,rfl,rfl,trivial⟩)))
theorem PL (L:List Nd)(n:Nat)(hn:L.length=n)(f:Bool)(z:Int)(i:Nat)(hi:i < L.length)(hl:n≤2002):Rnd Tryz.prog I 47 (AK Tryz.prog 75 0) (RB c L n f z i) .normal (RB c L n f z (i+1)):=by
 exact Rnd.nam [(40,63),(41,72),(42,82)] (show Rnd _ _ _ _ _ _ ⟨[(1,.p 3 0),(5,.s 63),(6,.s 72),(7,.s 82),(8,.i ((i+1:Nat):Int))],[(63,some ⟨3,some (1,i+1),(Aa ((Cl L (·.par) i).map Ae))++([.i ((tat L i).par)])⟩),(72,some ⟨101,some (3,i+1),(Aa ((Cl L dcn i).map AA))++([.i ((tat L i).fst),.i ((tat L i).nxt),.o ((tat L i).tog)])⟩),(82,some ⟨4,some (1,i+1),(Aa ((Cl L (fun x=>decide (x.st=1)) i).map Bl))++([.o (decide (((tat L i).st)=1))])⟩),(3,some ⟨46,none,[.sl 0,.o f,.i z]⟩),(0,some ⟨103,some (9,n),Aa ((L).map (Ac c))⟩)],89⟩ from rr [pk (Ak 3 (i:Int) (n:Nat)),⟨.ix (i:Int) i n,⟨by omega,by omega⟩⟩,⟨.part (Aa ((L).map (Ac c))) (i*9+0) 1 [.i ((tat L i).par)],(BH (c:=c) (fo:=0) (n:=1) hi rfl)⟩,⟨.ap i 1 8,⟨by omega,by simp[maxLen];omega⟩⟩,⟨.ix (i:Int) i n,⟨by omega,by omega⟩⟩,⟨.part (Aa ((L).map (Ac c))) (i*9+1) 3 [.i ((tat L i).fst),.i ((tat L i).nxt),.o ((tat L i).tog)],(BH (c:=c) (fo:=1) (n:=3) hi rfl)⟩,⟨.ap i 1 24,⟨by omega,by simp[maxLen];omega⟩⟩,⟨.ix (i:Int) i n,⟨by omega,by omega⟩⟩,⟨.part (Aa ((L).map (Ac c))) (i*9+8) 1 [.i ((tat L i).st)],(BH (c:=c) (fo:=8) (n:=1) hi rfl)⟩,pk (AO 3 ((tat L i).st) 1 (decide (((tat L i).st)=1)) rfl),⟨.ap i 1 1,⟨by omega,by simp[maxLen];omega⟩⟩,pk (Ay 3 (i:Int) 1 ⟨by omega,by omega⟩)]) (t:=⟨[(1,.p 3 0),(5,.s 40),(6,.s 41),(7,.s 42),(8,.i ((i+1:Nat):Int))],[(40,some ⟨3,some (1,i+1),Aa ((Cl L (·.par) (i+1)).map Ae)⟩),(41,some ⟨101,some (3,i+1),Aa ((Cl L dcn (i+1)).map AA)⟩),(42,some ⟨4,some (1,i+1),Aa ((Cl L (fun x=>decide (x.st=1)) (i+1)).map Bl)⟩),(3,some ⟨46,none,[.sl 0,.o f,.i z]⟩),(0,some ⟨103,some (9,n),Aa ((L).map (Ac c))⟩)],50⟩) ⟨rfl,TVle.refl,rfl,TVle.refl,rfl,TVle.refl,rfl,TVle.refl,rfl,TVle.refl,trivial⟩ ⟨rfl,rfl,rfl,ILe.eq (show (Aa ((Cl L (·.par) i).map Ae))++([.i ((tat L i).par)])=Aa ((Cl L (·.par) (i+1)).map Ae) from (by rw[DT,List.map_append,C6];rfl)),rfl,rfl,rfl,ILe.eq (show (Aa ((Cl L dcn i).map AA))++([.i ((tat L i).fst),.i ((tat L i).nxt),.o ((tat L i).tog)])=Aa ((Cl L dcn (i+1)).map AA) from (by rw[DT,List.map_append,C6];rfl)),rfl,rfl,rfl,ILe.eq (show (Aa ((Cl L (fun x=>decide (x.st=1)) i).map Bl))++([.o (decide (((tat L i).st)=1))])=Aa ((Cl L (fun x=>decide (x.st=1)) (i+1)).map Bl) from (by rw[DT,List.map_append,C6];rfl)),rfl,rfl,rfl,ILe.refl,rfl,rfl,rfl,ILe.refl,trivial⟩
theorem Ru (L:List Nd)(f:Bool)(z:Int)(n:Nat)(hn:L.length=n)(hl:n≤2002):LoopTr Tryz.prog I 47 (AK Tryz.prog 75 0) ⟨[(1,.p 3 0),(5,.cv (.one (.z))),(6,.cv (.one (.z))),(7,.cv (.one (.z))),(8,.i 0)],[(3,some ⟨46,none,[.sl 0,.o f,.i z]⟩),(0,some ⟨103,some (9,n),Aa ((L).map (Ac c))⟩)],47⟩ (.exit 0) ⟨[(5,.s 40),(6,.s 41),(7,.s 42)],[(40,some ⟨3,some (1,n),Aa ((Av L).map Ae)⟩),(41,some ⟨101,some (3,n),Aa ((AG L).map AA)⟩),(42,some ⟨4,some (1,n),Aa ((Ca L).map Bl)⟩),(0,some ⟨103,some (9,n),Aa ((L).map (Ac c))⟩)],50⟩:=by
 refine LoopTr.pre (SY L n f z) (Bq (by simp) (fun i=>RB c L n f z i) n (fun i hi=>PL L n hn f z i (by omega) (by omega)) ?_)
 unfold RB;have e1:=ET L (·.par);have e2:=ET L dcn;have e3:=ET L (fun x=>decide (x.st=1))
 rw[hn] at e1 e2 e3;rw[e1,e2,e3];exact Rnd.nam [] (show Rnd _ _ _ _ _ _ ⟨[(5,.s 40),(6,.s 41),(7,.s 42)],[(40,some ⟨3,some (1,n),Aa ((Av L).map Ae)⟩),(41,some ⟨101,some (3,n),Aa ((AG L).map AA)⟩),(42,some ⟨4,some (1,n),Aa ((Ca L).map Bl)⟩),(0,some ⟨103,some (9,n),Aa ((L).map (Ac c))⟩)],55⟩ from rr [pk (Ai 3 (n:Int) (n:Nat))]) (t:=⟨[(5,.s 40),(6,.s 41),(7,.s 42)],[(40,some ⟨3,some (1,n),Aa ((Av L).map Ae)⟩),(41,some ⟨101,some (3,n),Aa ((AG L).map AA)⟩),(42,some ⟨4,some (1,n),Aa ((Ca L).map Bl)⟩),(0,some ⟨103,some (9,n),Aa ((L).map (Ac c))⟩)],50⟩) ⟨rfl,TVle.refl,rfl,TVle.refl,rfl,TVle.refl,trivial⟩ ⟨rfl,rfl,rfl,ILe.refl,rfl,rfl,rfl,ILe.refl,rfl,rfl,rfl,ILe.refl,rfl,rfl,rfl,ILe.refl,trivial⟩
theorem Ng (L:List Nd)(f:Bool)(z:Int)(n:Nat)(hn:L.length=n)(hl:n≤2002):SpM Tryz.prog I 75 [(0,some (nbx c L n))] [.ag [.sl 0,.o f,.i z]] [(0,some (nbx c L n))] (.tu [Rs L,Sg L,Aca L]):=by
 have lo:=Ru (I:=I) (c:=c) L f z n hn hl;exact sm 47 [pl (lo),pm (AX (I:=I) (t:=5) (k:=40) (E:=[(6,.s 41),(7,.s 42)]) (B:=[(41,some ⟨101,some (3,n),Aa ((AG L).map AA)⟩),(42,some ⟨4,some (1,n),Aa ((Ca L).map Bl)⟩),(0,some ⟨103,some (9,n),Aa ((L).map (Ac c))⟩)]) (nx:=50) (T:=3) (sz:=1) (n:=n) ((Av L).map Ae) rfl (by rw[List.length_map,Dp];exact hn.symm) LV rfl),pm (AX (I:=I) (t:=6) (k:=41) (E:=[(5,.t (slI 1 ((Av L).map (Ae)))),(7,.s 42)]) (B:=[(42,some ⟨4,some (1,n),Aa ((Ca L).map Bl)⟩),(0,some ⟨103,some (9,n),Aa ((L).map (Ac c))⟩)]) (nx:=50) (T:=101) (sz:=3) (n:=n) ((AG L).map AA) rfl (by rw[List.length_map,EW];exact hn.symm) PC rfl),pm (AX (I:=I) (t:=7) (k:=42) (E:=[(5,.t (slI 1 ((Av L).map (Ae)))),(6,.t (slI 3 ((AG L).map (AA))))]) (B:=[(0,some ⟨103,some (9,n),Aa ((L).map (Ac c))⟩)]) (nx:=50) (T:=4) (sz:=1) (n:=n) ((Ca L).map Bl) rfl (by rw[List.length_map,G4];exact hn.symm) Ui rfl)]
def cfC (D:List De)(x:Ch)(k:Nat):Int:=if (dat D k).1=x.fst∧(dat D k).2.1=x.nxt then 20 else 0
theorem UR {L:List Nd}{i:Nat}{x:Ch}:AQ (cfC (Ba L i) x) (Ba L i).length 0=0↔Ev L i x.fst x.nxt=false:=by
 rw[Kw,Br];constructor
 ·intro h d hd
  obtain ⟨k,hk,he⟩:=List.mem_iff_getElem.1 hd;have:=h k (Nat.zero_le _) (by omega)
  unfold cfC at this;rw[Hw hk,he] at this;intro hh;rw[if_pos hh] at this;omega
 ·intro h k _ hk
  have hk':k < (Ba L i).length:=by omega
  have:=h (Ba L i)[k] (List.getElem_mem hk');unfold cfC;rw[Hw hk',if_neg this]
def Adc (M:List Nd)(n:Nat)(f:Bool)(z:Int)(c':Bool)(x:Ch)(D:List De)(k:Int):Go.Proofs.YtdgbealknnmkoaaGreatDoor.St:=⟨[(3,.p 4 0),(4,.p 5 0),(7,.p 14 0),(16,.t (slI 3 ((D).map (AA)))),(17,.i k)],[(13,some ⟨103,some (9,n),Aa ((M).map (Ac true))⟩),(4,some ⟨28,none,[.i x.kind,.i x.node,.b (.it (fF c' 12 x.q)),.i x.fst,.i x.nxt,.i x.cost]⟩),(5,some ⟨46,none,[.z,.o false,.i 0]⟩),(14,some ⟨46,none,[.sl 13,.o f,.i z]⟩)],150⟩
theorem UQ (M:List Nd)(n:Nat)(f:Bool)(z:Int)(x:Ch)(D:List De)(hl:D.length≤100000) :
  (AQ (cfC D x) D.length 0=0→LoopTr Tryz.prog I 250 (AK Tryz.prog 29 0) (Adc M n f z c' x D ((0:Nat):Int)) (.exit 1) ⟨[(3,.p 4 0),(4,.p 5 0),(7,.p 14 0)],[(13,some ⟨103,some (9,n),Aa ((M).map (Ac true))⟩),(4,some ⟨28,none,[.i x.kind,.i x.node,.b (.it (fF c' 12 x.q)),.i x.fst,.i x.nxt,.i x.cost]⟩),(5,some ⟨46,none,[.z,.o false,.i 0]⟩),(14,some ⟨46,none,[.sl 13,.o f,.i z]⟩)],150⟩)∧(AQ (cfC D x) D.length 0≠0→LoopTr Tryz.prog I 250 (AK Tryz.prog 29 0) (Adc M n f z c' x D ((0:Nat):Int)) .ret ⟨[(4,.p 5 0),(5,.i 20)],[(5,some ⟨46,none,[.z,.o false,.i 0]⟩)],150⟩):=by
 refine CM (cfC D x) D.length (fun k=>Adc M n f z c' x D (k:Int)) (fun _=>⟨[(4,.p 5 0),(5,.i 20)],[(5,some ⟨46,none,[.z,.o false,.i 0]⟩)],150⟩) (fun k hk hc => ?_) ?_ (fun k hk hc => ?_)
 ·unfold cfC at hc
  by_cases h1:(dat D k).1=x.fst
  ·by_cases h2:(dat D k).2.1=x.nxt
   ·rw[if_pos ⟨h1,h2⟩] at hc;omega
   ·exact Rnd.nam [] (show Rnd _ _ _ _ _ _ ⟨[(3,.p 4 0),(4,.p 5 0),(7,.p 14 0),(16,.t (slI 3 ((D).map (AA)))),(17,.i ((k+1:Nat):Int))],[(13,some ⟨103,some (9,n),Aa ((M).map (Ac true))⟩),(4,some ⟨28,none,[.i x.kind,.i x.node,.b (.it (fF c' 12 x.q)),.i x.fst,.i x.nxt,.i x.cost]⟩),(5,some ⟨46,none,[.z,.o false,.i 0]⟩),(14,some ⟨46,none,[.sl 13,.o f,.i z]⟩)],175⟩ from rr [pk (Al 110 101 3 3 ((D).map (AA)) ((D).length:Int)),pk (Ak 3 (k:Int) ((D).length:Int)),pk (Aj 110 101 3 ((D).map (AA)) k (k:Int) (AA (dat D k)) (AW hk)),pk (AO 3 ((dat D k).1) x.fst true (decide_eq_true h1)),pk (Aj 110 101 3 ((D).map (AA)) k (k:Int) (AA (dat D k)) (AW hk)),pk (AO 3 ((dat D k).2.1) x.nxt false (decide_eq_false h2)),pk (Ay 3 (k:Int) 1 ⟨by omega,by omega⟩)]) (t:=⟨[(3,.p 4 0),(4,.p 5 0),(7,.p 14 0),(16,.t (slI 3 ((D).map (AA)))),(17,.i ((k+1:Nat):Int))],[(13,some ⟨103,some (9,n),Aa ((M).map (Ac true))⟩),(4,some ⟨28,none,[.i x.kind,.i x.node,.b (.it (fF c' 12 x.q)),.i x.fst,.i x.nxt,.i x.cost]⟩),(5,some ⟨46,none,[.z,.o false,.i 0]⟩),(14,some ⟨46,none,[.sl 13,.o f,.i z]⟩)],150⟩) ⟨rfl,TVle.refl,rfl,TVle.refl,rfl,TVle.refl,rfl,TVle.refl,rfl,TVle.refl,trivial⟩ ⟨rfl,rfl,rfl,ILe.refl,rfl,rfl,rfl,ILe.refl,rfl,rfl,rfl,ILe.refl,rfl,rfl,rfl,ILe.refl,trivial⟩
  ·exact Rnd.nam [] (show Rnd _ _ _ _ _ _ ⟨[(3,.p 4 0),(4,.p 5 0),(7,.p 14 0),(16,.t (slI 3 ((D).map (AA)))),(17,.i ((k+1:Nat):Int))],[(13,some ⟨103,some (9,n),Aa ((M).map (Ac true))⟩),(4,some ⟨28,none,[.i x.kind,.i x.node,.b (.it (fF c' 12 x.q)),.i x.fst,.i x.nxt,.i x.cost]⟩),(5,some ⟨46,none,[.z,.o false,.i 0]⟩),(14,some ⟨46,none,[.sl 13,.o f,.i z]⟩)],175⟩ from rr [pk (Al 110 101 3 3 ((D).map (AA)) ((D).length:Int)),pk (Ak 3 (k:Int) ((D).length:Int)),pk (Aj 110 101 3 ((D).map (AA)) k (k:Int) (AA (dat D k)) (AW hk)),pk (AO 3 ((dat D k).1) x.fst false (decide_eq_false h1)),pk (Ay 3 (k:Int) 1 ⟨by omega,by omega⟩)]) (t:=⟨[(3,.p 4 0),(4,.p 5 0),(7,.p 14 0),(16,.t (slI 3 ((D).map (AA)))),(17,.i ((k+1:Nat):Int))],[(13,some ⟨103,some (9,n),Aa ((M).map (Ac true))⟩),(4,some ⟨28,none,[.i x.kind,.i x.node,.b (.it (fF c' 12 x.q)),.i x.fst,.i x.nxt,.i x.cost]⟩),(5,some ⟨46,none,[.z,.o false,.i 0]⟩),(14,some ⟨46,none,[.sl 13,.o f,.i z]⟩)],150⟩) ⟨rfl,TVle.refl,rfl,TVle.refl,rfl,TVle.refl,rfl,TVle.refl,rfl,TVle.refl,trivial⟩ ⟨rfl,rfl,rfl,ILe.refl,rfl,rfl,rfl,ILe.refl,rfl,rfl,rfl,ILe.refl,rfl,rfl,rfl,ILe.refl,trivial⟩
 ·exact Rnd.nam [] (show Rnd _ _ _ _ _ _ ⟨[(3,.p 4 0),(4,.p 5 0),(7,.p 14 0)],[(13,some ⟨103,some (9,n),Aa ((M).map (Ac true))⟩),(4,some ⟨28,none,[.i x.kind,.i x.node,.b (.it (fF c' 12 x.q)),.i x.fst,.i x.nxt,.i x.cost]⟩),(5,some ⟨46,none,[.z,.o false,.i 0]⟩),(14,some ⟨46,none,[.sl 13,.o f,.i z]⟩)],154⟩ from rr [pk (Al 110 101 3 3 ((D).map (AA)) ((D).length:Int)),pk (Ai 3 (D.length:Int) ((D).length:Int))]) (t:=⟨[(3,.p 4 0),(4,.p 5 0),(7,.p 14 0)],[(13,some ⟨103,some (9,n),Aa ((M).map (Ac true))⟩),(4,some ⟨28,none,[.i x.kind,.i x.node,.b (.it (fF c' 12 x.q)),.i x.fst,.i x.nxt,.i x.cost]⟩),(5,some ⟨46,none,[.z,.o false,.i 0]⟩),(14,some ⟨46,none,[.sl 13,.o f,.i z]⟩)],150⟩) ⟨rfl,TVle.refl,rfl,TVle.refl,rfl,TVle.refl,trivial⟩ ⟨rfl,rfl,rfl,ILe.refl,rfl,rfl,rfl,ILe.refl,rfl,rfl,rfl,ILe.refl,rfl,rfl,rfl,ILe.refl,trivial⟩
 ·unfold cfC at hc
  by_cases h:(dat D k).1=x.fst∧(dat D k).2.1=x.nxt
  ·obtain ⟨h1,h2⟩:=h
   exact rr [pk (Al 110 101 3 3 ((D).map (AA)) ((D).length:Int)),pk (Ak 3 (k:Int) ((D).length:Int)),pk (Aj 110 101 3 ((D).map (AA)) k (k:Int) (AA (dat D k)) (AW hk)),pk (AO 3 ((dat D k).1) x.fst true (decide_eq_true h1)),pk (Aj 110 101 3 ((D).map (AA)) k (k:Int) (AA (dat D k)) (AW hk)),pk (AO 3 ((dat D k).2.1) x.nxt true (decide_eq_true h2))]
  ·rw[if_neg h] at hc;exact absurd rfl hc
def AaY (M:List Nd)(n:Nat)(f:Bool)(z:Int)(i:Int):Go.Proofs.YtdgbealknnmkoaaGreatDoor.St:=⟨[(4,.p 5 0),(7,.p 14 0),(19,.i i)],[(13,some ⟨103,some (9,n),Aa ((M).map (Ac true))⟩),(5,some ⟨46,none,[.z,.o false,.i 0]⟩),(14,some ⟨46,none,[.sl 13,.o f,.i z]⟩)],300⟩
theorem X8 {f:Bool}{z:Int}{q:Rat}(h:okc q=true):DH f z q=Q1 f z q:=by unfold DH Q1;rw[h,Bool.true_and]
theorem PH (M:List Nd)(f:Bool)(z:Int)(n:Nat)(hn:M.length=n)(hl:n≤2002)(i:Nat)(hi:i < M.length)(hok:okc (tat M i).q=true):Rnd Tryz.prog I 250 (AK Tryz.prog 29 1) (AaY M n f z (i:Int)) .normal (AaY (if (tat M i).st=0∧DH f z (tat M i).q=true then M.set i ⟨(tat M i).par,(tat M i).fst,(tat M i).nxt,(tat M i).tog,(tat M i).q,2⟩ else M) n f z ((i+1:Nat):Int)):=by
 rw[X8 hok];by_cases h1:(tat M i).st=0
 ·cases h2:Q1 f z (tat M i).q with
  | true =>
   have hb:=GZ (I:=I) (c:=true) f z n hn (tat M i).q true h2;rw[if_pos ⟨h1,rfl⟩];exact Rnd.nam [] (show Rnd _ _ _ _ _ _ ⟨[(4,.p 5 0),(7,.p 14 0),(19,.i ((i+1:Nat):Int))],[(13,some ⟨103,some (9,n),Aa (((M).set i ⟨(tat M i).par,(tat M i).fst,(tat M i).nxt,(tat M i).tog,(tat M i).q,2⟩).map (Ac true))⟩),(5,some ⟨46,none,[.z,.o false,.i 0]⟩),(14,some ⟨46,none,[.sl 13,.o f,.i z]⟩)],331⟩ from rr [pk (Ak 3 (i:Int) (n:Nat)),⟨.ix (i:Int) i n,⟨by omega,by omega⟩⟩,⟨.part (Aa ((M).map (Ac true))) (i*9+8) 1 [.i ((tat M i).st)],(BH (c:=true) (fo:=8) (n:=1) hi rfl)⟩,pk (AO 3 ((tat M i).st) 0 true (decide_eq_true h1)),⟨.ix (i:Int) i n,⟨by omega,by omega⟩⟩,⟨.part (Aa ((M).map (Ac true))) (i*9+4) 4 [.b (.it (fF true 12 (tat M i).q))],(BH (c:=true) (fo:=4) (n:=4) hi rfl)⟩,pom [13] (hb),⟨.ix (i:Int) i n,⟨by omega,by omega⟩⟩,⟨.upd (Aa ((M).map (Ac true))) (i*9+8) [.i 2] (Aa (((M).set i ⟨(tat M i).par,(tat M i).fst,(tat M i).nxt,(tat M i).tog,(tat M i).q,2⟩).map (Ac true))),(Jp (c:=true) (fo:=8) hi ⟨(tat M i).par,(tat M i).fst,(tat M i).nxt,(tat M i).tog,(tat M i).q,2⟩ rfl)⟩,pk (Ay 3 (i:Int) 1 ⟨by omega,by omega⟩)]) (t:=⟨[(4,.p 5 0),(7,.p 14 0),(19,.i ((i+1:Nat):Int))],[(13,some ⟨103,some (9,n),Aa (((M).set i ⟨(tat M i).par,(tat M i).fst,(tat M i).nxt,(tat M i).tog,(tat M i).q,2⟩).map (Ac true))⟩),(5,some ⟨46,none,[.z,.o false,.i 0]⟩),(14,some ⟨46,none,[.sl 13,.o f,.i z]⟩)],300⟩) ⟨rfl,TVle.refl,rfl,TVle.refl,rfl,TVle.refl,trivial⟩ ⟨rfl,rfl,rfl,ILe.refl,rfl,rfl,rfl,ILe.refl,rfl,rfl,rfl,ILe.refl,trivial⟩
  | false =>
   have hb:=GZ (I:=I) (c:=true) f z n hn (tat M i).q false h2;rw[if_neg (fun h=>by cases h.2)]
   exact Rnd.nam [] (show Rnd _ _ _ _ _ _ ⟨[(4,.p 5 0),(7,.p 14 0),(19,.i ((i+1:Nat):Int))],[(13,some ⟨103,some (9,n),Aa ((M).map (Ac true))⟩),(5,some ⟨46,none,[.z,.o false,.i 0]⟩),(14,some ⟨46,none,[.sl 13,.o f,.i z]⟩)],325⟩ from rr [pk (Ak 3 (i:Int) (n:Nat)),⟨.ix (i:Int) i n,⟨by omega,by omega⟩⟩,⟨.part (Aa ((M).map (Ac true))) (i*9+8) 1 [.i ((tat M i).st)],(BH (c:=true) (fo:=8) (n:=1) hi rfl)⟩,pk (AO 3 ((tat M i).st) 0 true (decide_eq_true h1)),⟨.ix (i:Int) i n,⟨by omega,by omega⟩⟩,⟨.part (Aa ((M).map (Ac true))) (i*9+4) 4 [.b (.it (fF true 12 (tat M i).q))],(BH (c:=true) (fo:=4) (n:=4) hi rfl)⟩,pom [13] (hb),pk (Ay 3 (i:Int) 1 ⟨by omega,by omega⟩)]) (t:=⟨[(4,.p 5 0),(7,.p 14 0),(19,.i ((i+1:Nat):Int))],[(13,some ⟨103,some (9,n),Aa ((M).map (Ac true))⟩),(5,some ⟨46,none,[.z,.o false,.i 0]⟩),(14,some ⟨46,none,[.sl 13,.o f,.i z]⟩)],300⟩) ⟨rfl,TVle.refl,rfl,TVle.refl,rfl,TVle.refl,trivial⟩ ⟨rfl,rfl,rfl,ILe.refl,rfl,rfl,rfl,ILe.refl,rfl,rfl,rfl,ILe.refl,trivial⟩
 ·rw[if_neg (fun h=>h1 h.1)]
  exact Rnd.nam [] (show Rnd _ _ _ _ _ _ ⟨[(4,.p 5 0),(7,.p 14 0),(19,.i ((i+1:Nat):Int))],[(13,some ⟨103,some (9,n),Aa ((M).map (Ac true))⟩),(5,some ⟨46,none,[.z,.o false,.i 0]⟩),(14,some ⟨46,none,[.sl 13,.o f,.i z]⟩)],325⟩ from rr [pk (Ak 3 (i:Int) (n:Nat)),⟨.ix (i:Int) i n,⟨by omega,by omega⟩⟩,⟨.part (Aa ((M).map (Ac true))) (i*9+8) 1 [.i ((tat M i).st)],(BH (c:=true) (fo:=8) (n:=1) hi rfl)⟩,pk (AO 3 ((tat M i).st) 0 false (decide_eq_false h1)),pk (Ay 3 (i:Int) 1 ⟨by omega,by omega⟩)]) (t:=⟨[(4,.p 5 0),(7,.p 14 0),(19,.i ((i+1:Nat):Int))],[(13,some ⟨103,some (9,n),Aa ((M).map (Ac true))⟩),(5,some ⟨46,none,[.z,.o false,.i 0]⟩),(14,some ⟨46,none,[.sl 13,.o f,.i z]⟩)],300⟩) ⟨rfl,TVle.refl,rfl,TVle.refl,rfl,TVle.refl,trivial⟩ ⟨rfl,rfl,rfl,ILe.refl,rfl,rfl,rfl,ILe.refl,rfl,rfl,rfl,ILe.refl,trivial⟩
theorem AdE (L:List Nd)(f:Bool)(z:Int)(i j:Nat)(hi:i≤L.length)(hj:j < L.length):(tat (clP L f z i) j).q=(tat L j).q:=by
 have h:=Qv L f z i hi j;have hg:L[j]? = some (tat L j):=Dm hj;have e:=Dm (L:=clP L f z i) (i:=j) (by rw[Gp];exact hj)
 rw[e,hg] at h;by_cases hji:j < i
 ·rw[if_pos hji] at h
  injection h with h;rw[h];unfold clN;split <;> rfl
 ·rw[if_neg hji] at h
  injection h with h;rw[h]
theorem Rg (L:List Nd)(f:Bool)(z:Int)(n:Nat)(hn:L.length=n)(hl:n≤2002)(hok : ∀ i,i < n→okc (tat L i).q=true):LoopTr Tryz.prog I 250 (AK Tryz.prog 29 1) (AaY L n f z ((0:Nat):Int)) (.exit 3) ⟨[(4,.p 5 0),(7,.p 14 0)],[(13,some ⟨103,some (9,n),Aa (((clL L f z)).map (Ac true))⟩),(5,some ⟨46,none,[.z,.o false,.i 0]⟩),(14,some ⟨46,none,[.sl 13,.o f,.i z]⟩)],300⟩ :=
 Bq (by simp) (fun i=>AaY (clP L f z i) n f z (i:Int)) n (fun i hi=>by
  have hm:=Gp L f z i;exact PH (I:=I) (clP L f z i) f z n (by omega) hl i (by omega) (by rw[AdE L f z i i (by omega) (by omega)];exact hok i hi)) (by
  rw[Zq f z hn];generalize clL L f z=M;exact Rnd.nam [] (show Rnd _ _ _ _ _ _ ⟨[(4,.p 5 0),(7,.p 14 0)],[(13,some ⟨103,some (9,n),Aa ((M).map (Ac true))⟩),(5,some ⟨46,none,[.z,.o false,.i 0]⟩),(14,some ⟨46,none,[.sl 13,.o f,.i z]⟩)],305⟩ from rr [pk (Ai 3 (n:Int) (n:Nat))]) (t:=⟨[(4,.p 5 0),(7,.p 14 0)],[(13,some ⟨103,some (9,n),Aa ((M).map (Ac true))⟩),(5,some ⟨46,none,[.z,.o false,.i 0]⟩),(14,some ⟨46,none,[.sl 13,.o f,.i z]⟩)],300⟩) ⟨rfl,TVle.refl,rfl,TVle.refl,trivial⟩ ⟨rfl,rfl,rfl,ILe.refl,rfl,rfl,rfl,ILe.refl,rfl,rfl,rfl,ILe.refl,trivial⟩)
end
theorem TS {L:List Nd}{f:Bool}{z:Int}(h:tvc L f z=0){i:Nat}(hi:i < L.length):okc (tat L i).q=true:=by
 obtain ⟨_,_,_,_,h5,_⟩:=DM h;have:=Br.1 h5 i (Nat.zero_le _) (by omega)
 unfold BP at this;split at this
 ·omega
 ·cases hk:okc (tat L i).q with
  | true=>rfl
  | false=>rw[hk] at this;exact absurd this (by decide)
theorem ZN {L:List Nd}{i:Nat}(h:i < L.length):tat L i∈L:=by
 have:=Dm h;exact List.mem_of_getElem? this
theorem Aa0 {L:List Nd}{y:Nd}(h:y∈L) : ∃ i,i < L.length∧y=tat L i:=by
 obtain ⟨i,hi,e⟩:=List.mem_iff_getElem.1 h;have:=Dm hi;rw[List.getElem?_eq_getElem hi,e] at this;injection this with this;exact ⟨i,hi,this⟩
theorem Abh {L : List Nd} {f : Bool} {z : Int} {x : Ch} (h : tvc L f z = 0) (hc : chE L x = 0) : ∀ i, i < (chM L f z x).1.length → okc (tat (chM L f z x).1 i).q = true := by
 have hok:=fun i hi=>TS h (i:=i) hi
 have hall : ∀ y∈L,okc y.q=true:=fun y hy=>by obtain ⟨i,hi,rfl⟩:=Aa0 hy;exact hok i hi
 suffices ∀ y∈(chM L f z x).1,okc y.q=true from fun i hi=>this _ (ZN hi)
 unfold chE at hc;unfold chM;by_cases k1:x.kind=1
 ·rw[if_pos k1] at hc ⊢
  unfold raE at hc;by_cases h1:x.node < 0∨(L.length:Int)≤x.node
  ·rw[if_pos h1] at hc;omega
  ·rw[if_neg h1] at hc
   cases h3:okc x.q with
   | false=>rw[h3,if_pos rfl] at hc;omega
   | true =>
    intro y hy;unfold raL at hy
    dsimp only at hy
    split at hy
    ·rcases List.mem_or_eq_of_mem_set hy with hy | rfl
     ·exact hall y hy
     ·exact h3
    ·exact hall y hy
 ·rw[if_neg k1] at hc ⊢
  by_cases k2:x.kind=2
  ·rw[if_pos k2] at hc ⊢
   unfold spE at hc;by_cases h1:x.node < 0∨(L.length:Int)≤x.node∨x.fst < 0∨x.nxt < 0∨x.fst=x.nxt
   ·rw[if_pos h1] at hc;omega
   ·have hi:x.node.toNat < L.length:=by omega
    intro y hy;unfold spL at hy
    dsimp only at hy
    rcases List.mem_append.1 hy with hy | hy
    ·unfold Bk at hy
     rcases List.mem_or_eq_of_mem_set hy with hy | rfl
     ·exact hall y hy
     ·exact hok _ hi
    ·simp at hy
     rcases hy with rfl | rfl <;> exact hok _ hi
  ·rw[if_neg k2] at hc ⊢
   exact hall
section
variable {I:WInv}{c c':Bool}
theorem Ri (L : List Nd) (f : Bool) (z : Int) (x : Ch) (h : tvc L f z = 0) (hc : chE L x ≠ 0) : SpM Tryz.prog I 29 [] [trT c L f z, chT c' x] [] (.tu [.ag [.z, .o false, .i 0], ci (chE L x)]) := by
 obtain ⟨h1,h2,_,_,_,h6,_⟩:=DM h;have hD:=(KG h6).2;have va:=FV (I:=I) (c:=c) L f z (by omega)
 rw[SG,h] at va;have hco:=Sl (I:=I) (c:=c) L f z h1 (by omega)
 unfold chE at hc ⊢;by_cases k1:x.kind=1
 ·rw [if_pos k1] at hc ⊢
  unfold raE at hc ⊢;have hce:=BI (I:=I) (c:=c') (p:=x.q);by_cases g1:x.node < 0
  ·rw[if_pos (.inl g1)]
   cases h3:okc x.q with
   | true =>
    rw[Fx h3] at hce;exact sm 250 [po (va),pa,pom [] (hco),pk (Bd 3 x.node 0),pk (AO 3 x.kind 1 true (decide_eq_true (by omega))),po (hce),pa]
   | false =>
    rw[J4 h3] at hce;exact sm 250 [po (va),pa,pom [] (hco),pk (Bd 3 x.node 0),pk (AO 3 x.kind 1 true (decide_eq_true (by omega))),po (hce),pa]
  ·by_cases g2:(L.length:Int)≤x.node
   ·rw[if_pos (.inr g2)]
    cases h3:okc x.q with
    | true =>
     rw[Fx h3] at hce;exact sm 250 [po (va),pa,pom [] (hco),pk (Bn 3 x.node 0),pk (Ai 3 x.node (L.length:Nat)),pk (AO 3 x.kind 1 true (decide_eq_true (by omega))),po (hce),pa]
    | false =>
     rw[J4 h3] at hce;exact sm 250 [po (va),pa,pom [] (hco),pk (Bn 3 x.node 0),pk (Ai 3 x.node (L.length:Nat)),pk (AO 3 x.kind 1 true (decide_eq_true (by omega))),po (hce),pa]
   ·rw[if_neg (by omega)] at hc ⊢
    cases h3:okc x.q with
    | false =>
     rw[J4 h3] at hce;rw[if_pos rfl];exact sm 250 [po (va),pa,pom [] (hco),pk (Bn 3 x.node 0),pk (Ak 3 x.node (L.length:Nat)),pk (AO 3 x.kind 1 true (decide_eq_true (by omega))),po (hce),pa,pa]
    | true =>
     rw[Fx h3] at hce;rw[h3,if_neg (by decide)] at hc
     rw[if_neg (by decide)]
     obtain ⟨i,hni⟩ : ∃ i:Nat,x.node=(i:Int):=⟨x.node.toNat,by omega⟩
     have hi:i < L.length:=by omega
     have ht:x.node.toNat=i:=by omega
     rw[ht] at hc ⊢;by_cases h4:(tat L i).st=0
     ·rw[if_neg (by simp[h4])] at hc;exact absurd rfl hc
     ·rw[if_pos h4]
      have hop:=En (I:=I) (c:=true) f z L.length rfl i hi 16 (if_neg h4);rw[←hni] at hop;exact sm 250 [po (va),pa,pom [] (hco),pk (Bn 3 x.node 0),pk (Ak 3 x.node (L.length:Nat)),pk (AO 3 x.kind 1 true (decide_eq_true (by omega))),po (hce),pa,pa,pom [13] (hop),pa]
 ·rw [if_neg k1] at hc ⊢
  by_cases k2:x.kind=2
  ·rw [if_pos k2] at hc ⊢
   unfold spE at hc ⊢;by_cases g1:x.node < 0
   ·rw[if_pos (.inl g1)]
    exact sm 250 [po (va),pa,pom [] (hco),pk (Bd 3 x.node 0),pk (Ag 3 x.kind 1),pk (Ar 3 x.kind 2),pa]
   ·by_cases g2 : (L.length : Int) ≤ x.node
    ·rw[if_pos (.inr (.inl g2))]
     exact sm 250 [po (va),pa,pom [] (hco),pk (Bn 3 x.node 0),pk (Ai 3 x.node (L.length:Nat)),pk (Ag 3 x.kind 1),pk (Ar 3 x.kind 2),pa]
    ·by_cases g3 : x.fst < 0
     ·rw[if_pos (.inr (.inr (.inl g3)))]
      exact sm 250 [po (va),pa,pom [] (hco),pk (Bn 3 x.node 0),pk (Ak 3 x.node (L.length:Nat)),pk (Ag 3 x.kind 1),pk (Ar 3 x.kind 2),pa,pk (Ak 3 x.fst 0)]
     ·by_cases g4 : x.nxt < 0
      ·rw[if_pos (.inr (.inr (.inr (.inl g4))))]
       exact sm 250 [po (va),pa,pom [] (hco),pk (Bn 3 x.node 0),pk (Ak 3 x.node (L.length:Nat)),pk (Ag 3 x.kind 1),pk (Ar 3 x.kind 2),pa,pk (Ai 3 x.fst 0),pk (Ak 3 x.nxt 0)]
      ·by_cases g5 : x.fst = x.nxt
       ·rw[if_pos (.inr (.inr (.inr (.inr g5))))]
        exact sm 250 [po (va),pa,pom [] (hco),pk (Bn 3 x.node 0),pk (Ak 3 x.node (L.length:Nat)),pk (Ag 3 x.kind 1),pk (Ar 3 x.kind 2),pa,pk (Ai 3 x.fst 0),pk (Ai 3 x.nxt 0),pk (Ar 3 x.fst x.nxt)]
       ·rw [if_neg (by omega)] at hc ⊢
        obtain ⟨i,hni⟩ : ∃ i:Nat,x.node=(i:Int):=⟨x.node.toNat,by omega⟩
        have hi:i < L.length:=by omega
        have ht:x.node.toNat=i:=by omega
        rw[ht] at hc ⊢;by_cases h4:(tat L i).st=0
        ·rw[if_neg (by simp[h4])] at hc ⊢
         have hop:=En (I:=I) (c:=true) f z L.length rfl i hi 0 (if_pos h4);have hli:=Ng (I:=I) (c:=true) L f z L.length rfl (by omega)
         have hpa:=MN (I:=I) L (by omega) i hi (fun j h0 hj=>hD j h0 (by omega))
         have hcf:=UR (L:=L) (i:=i) (x:=x);have hlen:=Ho L i;rw[←hni] at hop hpa;have lo:=(UQ (I:=I) (c':=c') L L.length f z x (Ba L i) (by omega)).2
         generalize Ba L i=D at *;by_cases h7:2000 < L.length+2
         ·rw[if_pos (.inl h7)]
          exact sm 250 [po (va),pa,pom [] (hco),pk (Bn 3 x.node 0),pk (Ak 3 x.node (L.length:Nat)),pk (Ag 3 x.kind 1),pk (Ar 3 x.kind 2),pa,pk (Ai 3 x.fst 0),pk (Ai 3 x.nxt 0),pk (Ag 3 x.fst x.nxt),pom [13] (hop),pa,pom [13] (hli),po (hpa),pk (Ay 3 (L.length:Nat) 2 ⟨by omega,by omega⟩),pk (BY 3 ((L.length:Nat)+2) 2000)]
         ·by_cases h8:32≤D.length
          ·rw[if_pos (.inr h8)]
           exact sm 250 [po (va),pa,pom [] (hco),pk (Bn 3 x.node 0),pk (Ak 3 x.node (L.length:Nat)),pk (Ag 3 x.kind 1),pk (Ar 3 x.kind 2),pa,pk (Ai 3 x.fst 0),pk (Ai 3 x.nxt 0),pk (Ag 3 x.fst x.nxt),pom [13] (hop),pa,pom [13] (hli),po (hpa),pk (Ay 3 (L.length:Nat) 2 ⟨by omega,by omega⟩),pk (Au 3 ((L.length:Nat)+2) 2000),pk (Al 110 101 3 3 ((D).map (AA)) ((D).length:Int)),pk (Ay 3 ((D).length:Int) 1 ⟨by omega,by omega⟩),pk (BY 3 (((D).length:Int)+1) 32)]
          ·rw[if_neg (by omega)] at hc ⊢
           cases h9:Ev L i x.fst x.nxt with
           | false=>rw[h9] at hc;exact absurd rfl hc
           | true =>
            have lo:=lo (fun hh=>by rw[hcf,h9] at hh;cases hh)
            rw[if_pos rfl];exact sm 250 [po (va),pa,pom [] (hco),pk (Bn 3 x.node 0),pk (Ak 3 x.node (L.length:Nat)),pk (Ag 3 x.kind 1),pk (Ar 3 x.kind 2),pa,pk (Ai 3 x.fst 0),pk (Ai 3 x.nxt 0),pk (Ag 3 x.fst x.nxt),pom [13] (hop),pa,pom [13] (hli),po (hpa),pk (Ay 3 (L.length:Nat) 2 ⟨by omega,by omega⟩),pk (Au 3 ((L.length:Nat)+2) 2000),pk (Al 110 101 3 3 ((D).map (AA)) ((D).length:Int)),pk (Ay 3 ((D).length:Int) 1 ⟨by omega,by omega⟩),pk (Au 3 (((D).length:Int)+1) 32),pl (lo)]
        ·rw[if_pos h4]
         have hop:=En (I:=I) (c:=true) f z L.length rfl i hi 16 (if_neg h4);rw[←hni] at hop;exact sm 250 [po (va),pa,pom [] (hco),pk (Bn 3 x.node 0),pk (Ak 3 x.node (L.length:Nat)),pk (Ag 3 x.kind 1),pk (Ar 3 x.kind 2),pa,pk (Ai 3 x.fst 0),pk (Ai 3 x.nxt 0),pk (Ag 3 x.fst x.nxt),pom [13] (hop),pa]
  ·rw[if_neg k2] at hc ⊢
   by_cases k3:x.kind=3
   ·rw[if_pos k3] at hc ⊢
    have hc3:=EL (I:=I) x.cost;unfold fiE at hc ⊢;cases g:BG x.cost with
    | true=>rw[g] at hc;exact absurd rfl hc
    | false =>
     rw[g] at hc3;rw[if_neg (by decide)]
     by_cases g1:x.node < 0
     ·exact sm 250 [po (va),pa,pom [] (hco),pk (Bd 3 x.node 0),pk (Ag 3 x.kind 1),pk (Ag 3 x.kind 2),pk (Ar 3 x.kind 3),po (hc3),pa]
     ·by_cases g2:(L.length:Int)≤x.node
      ·exact sm 250 [po (va),pa,pom [] (hco),pk (Bn 3 x.node 0),pk (Ai 3 x.node (L.length:Nat)),pk (Ag 3 x.kind 1),pk (Ag 3 x.kind 2),pk (Ar 3 x.kind 3),po (hc3),pa]
      ·exact sm 250 [po (va),pa,pom [] (hco),pk (Bn 3 x.node 0),pk (Ak 3 x.node (L.length:Nat)),pk (Ag 3 x.kind 1),pk (Ag 3 x.kind 2),pk (Ar 3 x.kind 3),po (hc3),pa]
   ·rw[if_neg k3]
    by_cases g1:x.node < 0
    ·exact sm 250 [po (va),pa,pom [] (hco),pk (Bd 3 x.node 0),pk (Ag 3 x.kind 1),pk (Ag 3 x.kind 2),pk (Ag 3 x.kind 3)]
    ·by_cases g2:(L.length:Int)≤x.node
     ·exact sm 250 [po (va),pa,pom [] (hco),pk (Bn 3 x.node 0),pk (Ai 3 x.node (L.length:Nat)),pk (Ag 3 x.kind 1),pk (Ag 3 x.kind 2),pk (Ag 3 x.kind 3)]
     ·exact sm 250 [po (va),pa,pom [] (hco),pk (Bn 3 x.node 0),pk (Ak 3 x.node (L.length:Nat)),pk (Ag 3 x.kind 1),pk (Ag 3 x.kind 2),pk (Ag 3 x.kind 3)]
end
theorem Xy {L:List Nd}{x:Ch}{i:Nat}(ht:x.node.toNat=i)(hi:i < L.length):Aa ((Bk L i).map (Ac true))++[Ac true ⟨x.node,x.fst,x.nxt,true,(tat (Bk L i) i).q,0⟩,Ac true ⟨x.node,x.fst,x.nxt,false,(tat (Bk L i) i).q,0⟩].flatten.map It.b=Aa ((spL L x).map (Ac true)):=by
 unfold spL kid;rw[ht,R5 hi,List.map_append,C6];rfl
section
variable {I:WInv}{c c':Bool}
theorem VK (L : List Nd) (f : Bool) (z : Int) (x : Ch) (h : tvc L f z = 0) (hc : chE L x = 0) : SpM Tryz.prog I 29 [] [trT c L f z, chT c' x] [(2, some (nbx true (chS L f z x).1 (chS L f z x).1.length))] (.tu [.ag [.sl 2, .b (.lit (.bool (chS L f z x).2.1)), .b (.lit (.int .i64 (chS L f z x).2.2))], ci 0]) := by
 obtain ⟨h1,h2,_,_,_,h6,_⟩:=DM h;have hD:=(KG h6).2;have va:=FV (I:=I) (c:=c) L f z (by omega)
 rw[SG,h] at va;have hco:=Sl (I:=I) (c:=c) L f z h1 (by omega)
 have hok:=Abh h hc;have hln:=UP L f z x;have hsn:=Qx L f z x;rw[hsn];unfold chS;have lo:=Rg (I:=I) (chM L f z x).1 (chM L f z x).2.1 (chM L f z x).2.2 (chM L f z x).1.length rfl (by rw[hln];split <;> omega) hok
 rw[hln] at lo;unfold chE at hc;unfold chM at lo ⊢;by_cases k1:x.kind=1
 ·rw [if_pos k1] at hc
  rw[if_pos k1] at lo ⊢;rw[if_neg (show ¬ x.kind=2 by omega)] at lo ⊢
  dsimp only at lo ⊢
  unfold raE at hc;by_cases g:x.node < 0∨(L.length:Int)≤x.node
  ·rw[if_pos g] at hc;omega
  ·rw[if_neg g] at hc
   cases h3:okc x.q with
   | false=>rw[h3,if_pos rfl] at hc;omega
   | true =>
    have hce:=BI (I:=I) (c:=c') (p:=x.q);rw[Fx h3] at hce;rw[h3,if_neg (by decide)] at hc
    obtain ⟨i,hni⟩ : ∃ i:Nat,x.node=(i:Int):=⟨x.node.toNat,by omega⟩
    have hi:i < L.length:=by omega
    have ht:x.node.toNat=i:=by omega
    rw[ht] at hc;by_cases h4:(tat L i).st=0
    ·have hop:=En (I:=I) (c:=true) f z L.length rfl i hi 0 (if_pos h4)
     rw[←hni] at hop;by_cases h5:(tat L i).q < x.q
     ·have hM:raL L x=L.set i ⟨(tat L i).par,(tat L i).fst,(tat L i).nxt,(tat L i).tog,x.q,(tat L i).st⟩:=by unfold raL;rw[ht,if_pos h5]
      rw[hM] at lo ⊢;generalize clL (L.set i ⟨(tat L i).par,(tat L i).fst,(tat L i).nxt,(tat L i).tog,x.q,(tat L i).st⟩) f z=K at *;exact sm 250 [po (va),pa,pom [] (hco),pk (Bn 3 x.node 0),pk (Ak 3 x.node (L.length:Nat)),pk (AO 3 x.kind 1 true (decide_eq_true (by omega))),po (hce),pa,pa,pom [13] (hop),pa,⟨.ix x.node i L.length,⟨by omega,by omega⟩⟩,⟨.part (Aa ((L).map (Ac true))) (i*9+4) 4 [.b (.it (fF true 12 (tat L i).q))],(BH (c:=true) (fo:=4) (n:=4) hi rfl)⟩,po (Qs (I:=I) (c:=c') (c':=true) (p:=x.q) (q:=(tat L i).q)),pk (Dj 3 (CJ x.q ((tat L i).q)) 0 true (Sr h5)),po (BJ (I:=I) (c:=c') (k:=12) (p:=x.q) (by omega)),⟨.ix x.node i L.length,⟨by omega,by omega⟩⟩,⟨.upd (Aa ((L).map (Ac true))) (i*9+4) [.b (.it (fF true 12 x.q))] (Aa (((L).set i ⟨(tat L i).par,(tat L i).fst,(tat L i).nxt,(tat L i).tog,x.q,(tat L i).st⟩).map (Ac true))),(Jp (c:=true) (fo:=4) hi ⟨(tat L i).par,(tat L i).fst,(tat L i).nxt,(tat L i).tog,x.q,(tat L i).st⟩ rfl)⟩,pl (lo),pm ((show Leads I _ ⟨[(4,.p 5 0),(7,.p 14 0)],[(13,some ⟨103,some (9,L.length),Aa ((K).map (Ac true))⟩),(5,some ⟨46,none,[.z,.o false,.i 0]⟩),(14,some ⟨46,none,[.sl 13,.o f,.i z]⟩)],300⟩ ⟨[(4,.p 5 0),(7,.p 14 0)],[(2,some ⟨103,some (9,L.length),Aa ((K).map (Ac true))⟩),(5,some ⟨46,none,[.z,.o false,.i 0]⟩),(14,some ⟨46,none,[.sl 2,.o f,.i z]⟩)],300⟩ from AL [(2,13)] ⟨rfl,TVle.refl,rfl,TVle.refl,trivial⟩ ⟨rfl,rfl,rfl,ILe.refl,rfl,rfl,rfl,ILe.refl,rfl,rfl,rfl,ILe.refl,trivial⟩))]
     ·have hM:raL L x=L:=by unfold raL;rw[ht,if_neg h5]
      rw[hM] at lo ⊢;generalize clL L f z=K at *;exact sm 250 [po (va),pa,pom [] (hco),pk (Bn 3 x.node 0),pk (Ak 3 x.node (L.length:Nat)),pk (AO 3 x.kind 1 true (decide_eq_true (by omega))),po (hce),pa,pa,pom [13] (hop),pa,⟨.ix x.node i L.length,⟨by omega,by omega⟩⟩,⟨.part (Aa ((L).map (Ac true))) (i*9+4) 4 [.b (.it (fF true 12 (tat L i).q))],(BH (c:=true) (fo:=4) (n:=4) hi rfl)⟩,po (Qs (I:=I) (c:=c') (c':=true) (p:=x.q) (q:=(tat L i).q)),pk (Dj 3 (CJ x.q ((tat L i).q)) 0 false (Ss h5)),pl (lo),pm ((show Leads I _ ⟨[(4,.p 5 0),(7,.p 14 0)],[(13,some ⟨103,some (9,L.length),Aa ((K).map (Ac true))⟩),(5,some ⟨46,none,[.z,.o false,.i 0]⟩),(14,some ⟨46,none,[.sl 13,.o f,.i z]⟩)],300⟩ ⟨[(4,.p 5 0),(7,.p 14 0)],[(2,some ⟨103,some (9,L.length),Aa ((K).map (Ac true))⟩),(5,some ⟨46,none,[.z,.o false,.i 0]⟩),(14,some ⟨46,none,[.sl 2,.o f,.i z]⟩)],300⟩ from AL [(2,13)] ⟨rfl,TVle.refl,rfl,TVle.refl,trivial⟩ ⟨rfl,rfl,rfl,ILe.refl,rfl,rfl,rfl,ILe.refl,rfl,rfl,rfl,ILe.refl,trivial⟩))]
    ·rw[if_pos h4] at hc;omega
 ·rw [if_neg k1] at hc
  rw[if_neg k1] at lo ⊢;by_cases k2:x.kind=2
  ·rw [if_pos k2] at hc
   simp only[if_pos k2] at lo ⊢;unfold spE at hc;by_cases g:x.node < 0∨(L.length:Int)≤x.node∨x.fst < 0∨x.nxt < 0∨x.fst=x.nxt
   ·rw[if_pos g] at hc;omega
   ·rw[if_neg g] at hc
    obtain ⟨i,hni⟩ : ∃ i:Nat,x.node=(i:Int):=⟨x.node.toNat,by omega⟩
    have hi:i < L.length:=by omega
    have ht:x.node.toNat=i:=by omega
    rw[ht] at hc;by_cases h4:(tat L i).st=0
    ·rw[if_neg (by simp[h4])] at hc
     have hop:=En (I:=I) (c:=true) f z L.length rfl i hi 0 (if_pos h4);have hli:=Ng (I:=I) (c:=true) L f z L.length rfl (by omega)
     have hpa:=MN (I:=I) L (by omega) i hi (fun j h0 hj=>hD j h0 (by omega))
     have hcf:=UR (L:=L) (i:=i) (x:=x);have hlen:=Ho L i;rw[←hni] at hop hpa;have lc:=(UQ (I:=I) (c':=c') L L.length f z x (Ba L i) (by omega)).1
     by_cases h7:2000 < L.length+2∨32≤(Ba L i).length
     ·rw[if_pos h7] at hc;omega
     ·rw[if_neg h7] at hc
      cases h9:Ev L i x.fst x.nxt with
      | true=>rw[h9,if_pos rfl] at hc;omega
      | false =>
       have lc:=lc (hcf.2 h9);generalize Ba L i=D at *;generalize clL (spL L x) f z=K at *;exact sm 250 [po (va),pa,pom [] (hco),pk (Bn 3 x.node 0),pk (Ak 3 x.node (L.length:Nat)),pk (Ag 3 x.kind 1),pk (Ar 3 x.kind 2),pa,pk (Ai 3 x.fst 0),pk (Ai 3 x.nxt 0),pk (Ag 3 x.fst x.nxt),pom [13] (hop),pa,pom [13] (hli),po (hpa),pk (Ay 3 (L.length:Nat) 2 ⟨by omega,by omega⟩),pk (Au 3 ((L.length:Nat)+2) 2000),pk (Al 110 101 3 3 ((D).map (AA)) ((D).length:Int)),pk (Ay 3 ((D).length:Int) 1 ⟨by omega,by omega⟩),pk (Au 3 (((D).length:Int)+1) 32),pl (lc),⟨.ix x.node i L.length,⟨by omega,by omega⟩⟩,⟨.upd (Aa ((L).map (Ac true))) (i*9+8) [.i 1] (Aa (((L).set i ⟨(tat L i).par,(tat L i).fst,(tat L i).nxt,(tat L i).tog,(tat L i).q,1⟩).map (Ac true))),(Jp (c:=true) (fo:=8) hi ⟨(tat L i).par,(tat L i).fst,(tat L i).nxt,(tat L i).tog,(tat L i).q,1⟩ rfl)⟩,⟨.ix x.node i L.length,⟨by omega,by omega⟩⟩,⟨.part (Aa (((L).set i ⟨(tat L i).par,(tat L i).fst,(tat L i).nxt,(tat L i).tog,(tat L i).q,1⟩).map (Ac true))) (i*9+4) 4 [.b (.it (fF true 12 (tat ((L).set i ⟨(tat L i).par,(tat L i).fst,(tat L i).nxt,(tat L i).tog,(tat L i).q,1⟩) i).q))],(BH (c:=true) (fo:=4) (n:=4) (by rw[List.length_set];exact hi) rfl)⟩,⟨.ap L.length 2 104,⟨by omega,by simp only[maxLen];omega⟩⟩,pm ((show Leads I _ ⟨[(4,.p 5 0),(7,.p 14 0)],[(187,some ⟨103,some (9,L.length+2),(Aa (((L).set i ⟨(tat L i).par,(tat L i).fst,(tat L i).nxt,(tat L i).tog,(tat L i).q,1⟩).map (Ac true)))++([.i x.node,.i x.fst,.i x.nxt,.o true,.b (.it (fF true 12 (tat ((L).set i ⟨(tat L i).par,(tat L i).fst,(tat L i).nxt,(tat L i).tog,(tat L i).q,1⟩) i).q)),.i 0,.i x.node,.i x.fst,.i x.nxt,.o false,.b (.it (fF true 12 (tat ((L).set i ⟨(tat L i).par,(tat L i).fst,(tat L i).nxt,(tat L i).tog,(tat L i).q,1⟩) i).q)),.i 0])⟩),(5,some ⟨46,none,[.z,.o false,.i 0]⟩),(14,some ⟨46,none,[.sl 187,.o f,.i z]⟩)],190⟩ ⟨[(4,.p 5 0),(7,.p 14 0)],[(13,some ⟨103,some (9,L.length+2),Aa ((spL L x).map (Ac true))⟩),(5,some ⟨46,none,[.z,.o false,.i 0]⟩),(14,some ⟨46,none,[.sl 13,.o f,.i z]⟩)],190⟩ from AL [(13,187)] ⟨rfl,TVle.refl,rfl,TVle.refl,trivial⟩ ⟨rfl,rfl,rfl,ILe.eq (show (Aa (((L).set i ⟨(tat L i).par,(tat L i).fst,(tat L i).nxt,(tat L i).tog,(tat L i).q,1⟩).map (Ac true)))++([.i x.node,.i x.fst,.i x.nxt,.o true,.b (.it (fF true 12 (tat ((L).set i ⟨(tat L i).par,(tat L i).fst,(tat L i).nxt,(tat L i).tog,(tat L i).q,1⟩) i).q)),.i 0,.i x.node,.i x.fst,.i x.nxt,.o false,.b (.it (fF true 12 (tat ((L).set i ⟨(tat L i).par,(tat L i).fst,(tat L i).nxt,(tat L i).tog,(tat L i).q,1⟩) i).q)),.i 0])=Aa ((spL L x).map (Ac true)) from (Xy ht hi)),rfl,rfl,rfl,ILe.refl,rfl,rfl,rfl,ILe.refl,trivial⟩)),pl (lo),pm ((show Leads I _ ⟨[(4,.p 5 0),(7,.p 14 0)],[(13,some ⟨103,some (9,L.length+2),Aa ((K).map (Ac true))⟩),(5,some ⟨46,none,[.z,.o false,.i 0]⟩),(14,some ⟨46,none,[.sl 13,.o f,.i z]⟩)],300⟩ ⟨[(4,.p 5 0),(7,.p 14 0)],[(2,some ⟨103,some (9,L.length+2),Aa ((K).map (Ac true))⟩),(5,some ⟨46,none,[.z,.o false,.i 0]⟩),(14,some ⟨46,none,[.sl 2,.o f,.i z]⟩)],300⟩ from AL [(2,13)] ⟨rfl,TVle.refl,rfl,TVle.refl,trivial⟩ ⟨rfl,rfl,rfl,ILe.refl,rfl,rfl,rfl,ILe.refl,rfl,rfl,rfl,ILe.refl,trivial⟩))]
    ·rw[if_pos h4] at hc;omega
  ·rw [if_neg k2] at hc
   simp only[if_neg k2] at lo ⊢;by_cases k3:x.kind=3
   ·rw [if_pos k3] at hc
    have hc3:=EL (I:=I) x.cost;unfold fiE at hc;cases g:BG x.cost with
    | false=>rw[g] at hc;exact absurd hc (by decide)
    | true =>
     rw[g] at hc3;unfold fnF at lo ⊢;cases f with
     | false =>
      simp only[true_or,if_true] at lo ⊢;generalize clL L true x.cost=K at *;by_cases g1:x.node < 0
      ·exact sm 250 [po (va),pa,pom [] (hco),pk (Bd 3 x.node 0),pk (Ag 3 x.kind 1),pk (Ag 3 x.kind 2),pk (Ar 3 x.kind 3),po (hc3),pa,pa,pl (lo),pm ((show Leads I _ ⟨[(4,.p 5 0),(7,.p 14 0)],[(13,some ⟨103,some (9,L.length),Aa ((K).map (Ac true))⟩),(5,some ⟨46,none,[.z,.o false,.i 0]⟩),(14,some ⟨46,none,[.sl 13,.o true,.i x.cost]⟩)],300⟩ ⟨[(4,.p 5 0),(7,.p 14 0)],[(2,some ⟨103,some (9,L.length),Aa ((K).map (Ac true))⟩),(5,some ⟨46,none,[.z,.o false,.i 0]⟩),(14,some ⟨46,none,[.sl 2,.o true,.i x.cost]⟩)],300⟩ from AL [(2,13)] ⟨rfl,TVle.refl,rfl,TVle.refl,trivial⟩ ⟨rfl,rfl,rfl,ILe.refl,rfl,rfl,rfl,ILe.refl,rfl,rfl,rfl,ILe.refl,trivial⟩))]
      ·by_cases g2:(L.length:Int)≤x.node
       ·exact sm 250 [po (va),pa,pom [] (hco),pk (Bn 3 x.node 0),pk (Ai 3 x.node (L.length:Nat)),pk (Ag 3 x.kind 1),pk (Ag 3 x.kind 2),pk (Ar 3 x.kind 3),po (hc3),pa,pa,pl (lo),pm ((show Leads I _ ⟨[(4,.p 5 0),(7,.p 14 0)],[(13,some ⟨103,some (9,L.length),Aa ((K).map (Ac true))⟩),(5,some ⟨46,none,[.z,.o false,.i 0]⟩),(14,some ⟨46,none,[.sl 13,.o true,.i x.cost]⟩)],300⟩ ⟨[(4,.p 5 0),(7,.p 14 0)],[(2,some ⟨103,some (9,L.length),Aa ((K).map (Ac true))⟩),(5,some ⟨46,none,[.z,.o false,.i 0]⟩),(14,some ⟨46,none,[.sl 2,.o true,.i x.cost]⟩)],300⟩ from AL [(2,13)] ⟨rfl,TVle.refl,rfl,TVle.refl,trivial⟩ ⟨rfl,rfl,rfl,ILe.refl,rfl,rfl,rfl,ILe.refl,rfl,rfl,rfl,ILe.refl,trivial⟩))]
       ·exact sm 250 [po (va),pa,pom [] (hco),pk (Bn 3 x.node 0),pk (Ak 3 x.node (L.length:Nat)),pk (Ag 3 x.kind 1),pk (Ag 3 x.kind 2),pk (Ar 3 x.kind 3),po (hc3),pa,pa,pl (lo),pm ((show Leads I _ ⟨[(4,.p 5 0),(7,.p 14 0)],[(13,some ⟨103,some (9,L.length),Aa ((K).map (Ac true))⟩),(5,some ⟨46,none,[.z,.o false,.i 0]⟩),(14,some ⟨46,none,[.sl 13,.o true,.i x.cost]⟩)],300⟩ ⟨[(4,.p 5 0),(7,.p 14 0)],[(2,some ⟨103,some (9,L.length),Aa ((K).map (Ac true))⟩),(5,some ⟨46,none,[.z,.o false,.i 0]⟩),(14,some ⟨46,none,[.sl 2,.o true,.i x.cost]⟩)],300⟩ from AL [(2,13)] ⟨rfl,TVle.refl,rfl,TVle.refl,trivial⟩ ⟨rfl,rfl,rfl,ILe.refl,rfl,rfl,rfl,ILe.refl,rfl,rfl,rfl,ILe.refl,trivial⟩))]
     | true =>
      by_cases g3:x.cost < z
      ·simp only[g3,or_true,if_true] at lo ⊢
       generalize clL L true x.cost=K at *;by_cases g1:x.node < 0
       ·exact sm 250 [po (va),pa,pom [] (hco),pk (Bd 3 x.node 0),pk (Ag 3 x.kind 1),pk (Ag 3 x.kind 2),pk (Ar 3 x.kind 3),po (hc3),pa,pa,pk (Ak 3 x.cost z),pl (lo),pm ((show Leads I _ ⟨[(4,.p 5 0),(7,.p 14 0)],[(13,some ⟨103,some (9,L.length),Aa ((K).map (Ac true))⟩),(5,some ⟨46,none,[.z,.o false,.i 0]⟩),(14,some ⟨46,none,[.sl 13,.o true,.i x.cost]⟩)],300⟩ ⟨[(4,.p 5 0),(7,.p 14 0)],[(2,some ⟨103,some (9,L.length),Aa ((K).map (Ac true))⟩),(5,some ⟨46,none,[.z,.o false,.i 0]⟩),(14,some ⟨46,none,[.sl 2,.o true,.i x.cost]⟩)],300⟩ from AL [(2,13)] ⟨rfl,TVle.refl,rfl,TVle.refl,trivial⟩ ⟨rfl,rfl,rfl,ILe.refl,rfl,rfl,rfl,ILe.refl,rfl,rfl,rfl,ILe.refl,trivial⟩))]
       ·by_cases g2:(L.length:Int)≤x.node
        ·exact sm 250 [po (va),pa,pom [] (hco),pk (Bn 3 x.node 0),pk (Ai 3 x.node (L.length:Nat)),pk (Ag 3 x.kind 1),pk (Ag 3 x.kind 2),pk (Ar 3 x.kind 3),po (hc3),pa,pa,pk (Ak 3 x.cost z),pl (lo),pm ((show Leads I _ ⟨[(4,.p 5 0),(7,.p 14 0)],[(13,some ⟨103,some (9,L.length),Aa ((K).map (Ac true))⟩),(5,some ⟨46,none,[.z,.o false,.i 0]⟩),(14,some ⟨46,none,[.sl 13,.o true,.i x.cost]⟩)],300⟩ ⟨[(4,.p 5 0),(7,.p 14 0)],[(2,some ⟨103,some (9,L.length),Aa ((K).map (Ac true))⟩),(5,some ⟨46,none,[.z,.o false,.i 0]⟩),(14,some ⟨46,none,[.sl 2,.o true,.i x.cost]⟩)],300⟩ from AL [(2,13)] ⟨rfl,TVle.refl,rfl,TVle.refl,trivial⟩ ⟨rfl,rfl,rfl,ILe.refl,rfl,rfl,rfl,ILe.refl,rfl,rfl,rfl,ILe.refl,trivial⟩))]
        ·exact sm 250 [po (va),pa,pom [] (hco),pk (Bn 3 x.node 0),pk (Ak 3 x.node (L.length:Nat)),pk (Ag 3 x.kind 1),pk (Ag 3 x.kind 2),pk (Ar 3 x.kind 3),po (hc3),pa,pa,pk (Ak 3 x.cost z),pl (lo),pm ((show Leads I _ ⟨[(4,.p 5 0),(7,.p 14 0)],[(13,some ⟨103,some (9,L.length),Aa ((K).map (Ac true))⟩),(5,some ⟨46,none,[.z,.o false,.i 0]⟩),(14,some ⟨46,none,[.sl 13,.o true,.i x.cost]⟩)],300⟩ ⟨[(4,.p 5 0),(7,.p 14 0)],[(2,some ⟨103,some (9,L.length),Aa ((K).map (Ac true))⟩),(5,some ⟨46,none,[.z,.o false,.i 0]⟩),(14,some ⟨46,none,[.sl 2,.o true,.i x.cost]⟩)],300⟩ from AL [(2,13)] ⟨rfl,TVle.refl,rfl,TVle.refl,trivial⟩ ⟨rfl,rfl,rfl,ILe.refl,rfl,rfl,rfl,ILe.refl,rfl,rfl,rfl,ILe.refl,trivial⟩))]
      ·simp only[g3,or_false,Bool.true_eq_false,if_false] at lo ⊢
       generalize clL L true z=K at *;by_cases g1:x.node < 0
       ·exact sm 250 [po (va),pa,pom [] (hco),pk (Bd 3 x.node 0),pk (Ag 3 x.kind 1),pk (Ag 3 x.kind 2),pk (Ar 3 x.kind 3),po (hc3),pa,pa,pk (Ai 3 x.cost z),pl (lo),pm ((show Leads I _ ⟨[(4,.p 5 0),(7,.p 14 0)],[(13,some ⟨103,some (9,L.length),Aa ((K).map (Ac true))⟩),(5,some ⟨46,none,[.z,.o false,.i 0]⟩),(14,some ⟨46,none,[.sl 13,.o true,.i z]⟩)],300⟩ ⟨[(4,.p 5 0),(7,.p 14 0)],[(2,some ⟨103,some (9,L.length),Aa ((K).map (Ac true))⟩),(5,some ⟨46,none,[.z,.o false,.i 0]⟩),(14,some ⟨46,none,[.sl 2,.o true,.i z]⟩)],300⟩ from AL [(2,13)] ⟨rfl,TVle.refl,rfl,TVle.refl,trivial⟩ ⟨rfl,rfl,rfl,ILe.refl,rfl,rfl,rfl,ILe.refl,rfl,rfl,rfl,ILe.refl,trivial⟩))]
       ·by_cases g2:(L.length:Int)≤x.node
        ·exact sm 250 [po (va),pa,pom [] (hco),pk (Bn 3 x.node 0),pk (Ai 3 x.node (L.length:Nat)),pk (Ag 3 x.kind 1),pk (Ag 3 x.kind 2),pk (Ar 3 x.kind 3),po (hc3),pa,pa,pk (Ai 3 x.cost z),pl (lo),pm ((show Leads I _ ⟨[(4,.p 5 0),(7,.p 14 0)],[(13,some ⟨103,some (9,L.length),Aa ((K).map (Ac true))⟩),(5,some ⟨46,none,[.z,.o false,.i 0]⟩),(14,some ⟨46,none,[.sl 13,.o true,.i z]⟩)],300⟩ ⟨[(4,.p 5 0),(7,.p 14 0)],[(2,some ⟨103,some (9,L.length),Aa ((K).map (Ac true))⟩),(5,some ⟨46,none,[.z,.o false,.i 0]⟩),(14,some ⟨46,none,[.sl 2,.o true,.i z]⟩)],300⟩ from AL [(2,13)] ⟨rfl,TVle.refl,rfl,TVle.refl,trivial⟩ ⟨rfl,rfl,rfl,ILe.refl,rfl,rfl,rfl,ILe.refl,rfl,rfl,rfl,ILe.refl,trivial⟩))]
        ·exact sm 250 [po (va),pa,pom [] (hco),pk (Bn 3 x.node 0),pk (Ak 3 x.node (L.length:Nat)),pk (Ag 3 x.kind 1),pk (Ag 3 x.kind 2),pk (Ar 3 x.kind 3),po (hc3),pa,pa,pk (Ai 3 x.cost z),pl (lo),pm ((show Leads I _ ⟨[(4,.p 5 0),(7,.p 14 0)],[(13,some ⟨103,some (9,L.length),Aa ((K).map (Ac true))⟩),(5,some ⟨46,none,[.z,.o false,.i 0]⟩),(14,some ⟨46,none,[.sl 13,.o true,.i z]⟩)],300⟩ ⟨[(4,.p 5 0),(7,.p 14 0)],[(2,some ⟨103,some (9,L.length),Aa ((K).map (Ac true))⟩),(5,some ⟨46,none,[.z,.o false,.i 0]⟩),(14,some ⟨46,none,[.sl 2,.o true,.i z]⟩)],300⟩ from AL [(2,13)] ⟨rfl,TVle.refl,rfl,TVle.refl,trivial⟩ ⟨rfl,rfl,rfl,ILe.refl,rfl,rfl,rfl,ILe.refl,rfl,rfl,rfl,ILe.refl,trivial⟩))]
   ·rw[if_neg k3] at hc;omega
theorem O6 (L:List Nd)(f:Bool)(z:Int)(hl:L.length≤1000000000)(x:Ch):Sp Tryz.prog I 29 [trT c L f z,chT c' x] (.tu [trT true (apS L f z x).1 (apS L f z x).2.1 (apS L f z x).2.2,ci (apC L f z x)]):=by
 by_cases h:tvc L f z=0
 ·have e:apC L f z x=chE L x:=by unfold apC;rw[if_neg (fun hh=>hh h)]
  unfold apS;rw[e];by_cases hc:chE L x=0
  ·rw[if_pos hc,hc]
   exact (VK (I:=I) (c:=c) (c':=c') L f z x h hc).freeze (by rw[List.length_map]) EH rfl
  ·rw[if_neg hc]
   exact Sp.errT ((Ri (I:=I) (c:=c) (c':=c') L f z x h hc).sp rfl)
 ·have e:apC L f z x=tvc L f z:=by unfold apC;rw[if_pos h]
  unfold apS;rw[e,if_neg h];have va:=FV (I:=I) (c:=c) L f z hl;rw[SG] at va;refine Sp.errT ?_;generalize tvc L f z=r at *;exact sr 250 [po (va),pk (AI 32 r 0)]
end
def cnt (L:List Nd):Nat→Nat→Int
 | 0,_=>0
 | m+1,i=>if pp L m=i then cnt L m i+2 else cnt L m i
theorem Qu {L:List Nd}{M:Nat}(hn:L.length=2*M+1)(hp : ∀ m,m < M→prB L m=true) : ∀ m,m≤M → ∀ i,iat (clt L m) i=cnt L m i
 | 0,_,i=>by rw[clt,ES,cnt]
 | m+1,hm,i=>by rw[Ky hn hp (by omega),cnt,Qu hn hp m (by omega) i]
theorem Sq (L:List Nd) : ∀ m i,cnt L m i % 2=0
 | 0,_=>rfl
 | m+1,i=>by
  rw[cnt];have:=Sq L m i;split <;> omega
theorem J3 (L:List Nd) : ∀ m i,0≤cnt L m i
 | 0,_=>Int.le_refl _
 | m+1,i=>by
  rw[cnt];have:=J3 L m i;split <;> omega
theorem So {L:List Nd} : ∀ {m i:Nat},cnt L m i=0 → ∀ k,k < m→pp L k≠i
 | 0,_,_,k,hk=>by omega
 | m+1,i,h,k,hk=>by
  rw[cnt] at h;have:=J3 L m i;by_cases hp:pp L m=i
  ·rw[if_pos hp] at h;omega
  ·rw[if_neg hp] at h
   by_cases hkm:k=m
   ·rw[hkm];exact hp
   ·exact So h k (by omega)
theorem Sn {L:List Nd} : ∀ {m i:Nat},(∀ k,k < m→pp L k≠i)→cnt L m i=0
 | 0,_,_=>rfl
 | m+1,i,h=>by rw[cnt,if_neg (h m (by omega))];exact Sn fun k hk=>h k (by omega)
theorem Lm {L L':List Nd} : ∀ {m i:Nat},(∀ k,k < m→pp L k=pp L' k)→cnt L m i=cnt L' m i
 | 0,_,_=>rfl
 | m+1,i,h=>by rw[cnt,cnt,h m (by omega),Lm fun k hk=>h k (by omega)]
structure Shp (L:List Nd) (M:Nat):Prop where
 len:L.length=2*M+1
 rpar:(tat L 0).par = -1
 rdec:dcn (tat L 0)=(0,0,false)
 prs : ∀ m,m < M→prB L m=true
 dep : ∀ i,i < L.length→(Ba L i).length≤32
 twn : ∀ i,i < L.length→GH (Ba L i)
 two : ∀ i,i < L.length→cnt L M i≤2
 spl : ∀ i,i < L.length→((tat L i).st=1↔cnt L M i=2)
 bnd : ∀ m,m < M→(tat L (pp L m)).q≤(tat L (2*m+1)).q∧(tat L (pp L m)).q≤(tat L (2*m+2)).q
theorem Ua {L:List Nd}:shB L=true ↔ ∃ M,Shp L M:=by
 rw[Ub];constructor
 ·rintro ⟨h1,h2⟩
  unfold rpB rtB at h1;simp only[Bool.and_eq_true,List.all_eq_true,List.mem_range,decide_eq_true_eq,Br] at h1;obtain ⟨⟨⟨⟨a1,a2⟩,a3⟩,a4⟩,a5⟩:=h1;have hn:L.length=2*(L.length / 2)+1:=by omega
  have ho:=fun i hi=>(LY hn (i:=i) hi).1 (a5 i (Nat.zero_le _) (by omega))
  have hc:=Qu hn a4 _ (Nat.le_refl _);have hb:=(J5 hn a4).1 fun j hj=>Br.1 h2 j (Nat.zero_le _) (by omega)
  refine ⟨L.length / 2,hn,a1,a2,a4,fun i hi=>(ho i hi).2.2.1,fun i hi=>(ho i hi).2.2.2,fun i hi => ?_,fun i hi => ?_,hb⟩
  ·rw[←hc];exact (ho i hi).1
  ·rw[←hc];exact (ho i hi).2.1
 ·rintro ⟨M,h⟩
  have hM2:L.length / 2=M:=by have:=h.len;omega
  have hc:=Qu h.len h.prs _ (Nat.le_refl _);refine ⟨?_,?_⟩
  ·unfold rpB rtB
   simp only[Bool.and_eq_true,List.all_eq_true,List.mem_range,decide_eq_true_eq,Br,hM2];refine ⟨⟨⟨⟨h.rpar,h.rdec⟩,by have:=h.len;omega⟩,h.prs⟩,fun i _ hi => ?_⟩
   have hi:i < L.length:=by omega
   exact (LY h.len hi).2 ⟨by rw[hc];exact h.two i hi,by rw[hc];exact h.spl i hi,h.dep i hi,h.twn i hi⟩
  ·rw[Br]
   exact fun j _ hj=>(J5 h.len h.prs).2 h.bnd j (by omega)
structure Vld (L:List Nd) (f:Bool) (z:Int) (M:Nat):Prop where
 shp:Shp L M
 big:M≤999
 cst:BG z=true
 zer:z=0∨f=true
 ok : ∀ i,i < L.length→okc (tat L i).q=true
 st0 : ∀ i,i < L.length→0≤(tat L i).st∧(tat L i).st≤2
 cl : ∀ i,i < L.length→(tat L i).st≠1→((tat L i).st=2↔DH f z (tat L i).q=true)
theorem Pq {L:List Nd}{f:Bool}{z:Int}:tvc L f z=0 ↔ ∃ M,Vld L f z M:=by
 constructor
 ·intro h
  obtain ⟨h1,h2,h3,h4,h5,h6,h7⟩:=DM h;obtain ⟨M,hs⟩:=Ua.1 h6;have hl:=hs.len;refine ⟨M,hs,by omega,h3,h4,fun i hi=>TS h hi,fun i hi => ?_,fun i hi hne => ?_⟩
  ·have:=Br.1 h5 i (Nat.zero_le _) (by omega)
   unfold BP at this;split at this
   ·omega
   ·omega
  ·have:=Br.1 h7 i (Nat.zero_le _) (by omega)
   unfold Ef at this;rw[if_neg hne] at this;by_cases he:decide ((tat L i).st=2)=DH f z (tat L i).q
   ·rw[←he];simp
   ·rw[if_neg he] at this;omega
 ·rintro ⟨M,h⟩
  have hl:=h.shp.len;have hb:=h.big;unfold tvc;rw[if_neg (by omega),if_neg (by rw[h.cst];rcases h.zer with hz | hf <;> simp[*])]
  have h5:AQ (BP L) L.length 0=0:=Br.2 fun i _ hi=>by
   have:=h.st0 i (by omega)
   unfold BP;rw[if_neg (by omega),h.ok i (by omega)];rfl
  rw[if_neg (fun hh=>hh h5),Ua.2 ⟨M,h.shp⟩,if_neg (by decide)]
  exact Br.2 fun i _ hi=>by
   have hc:=h.cl i (by omega)
   unfold Ef;by_cases hne:(tat L i).st=1
   ·rw[if_pos hne]
   ·rw[if_neg hne]
    have:=hc hne;rw[if_pos (by cases hs:DH f z (tat L i).q <;> simp[hs] at this ⊢ <;> exact this)]
theorem Q9 {L L':List Nd}(i:Nat):(∀ j,j≤i→(tat L j).par=(tat L' j).par∧dcn (tat L j)=dcn (tat L' j))→Cx L i=Cx L' i:=by
 induction i using Nat.strongRecOn with
 | _ i ih =>
  intro h;have hi:=(h i (Nat.le_refl _)).1;by_cases hc:0 < i∧(tat L i).par.toNat < i
  ·have e1:Cx L i=dcn (tat L i)::Cx L (tat L i).par.toNat:=by unfold Cx;rw[K9,dif_pos hc,List.map_cons]
   have e2:Cx L' i=dcn (tat L' i)::Cx L' (tat L' i).par.toNat:=by unfold Cx;rw[K9,dif_pos (by rw[←hi];exact hc),List.map_cons]
   rw[e1,e2,(h i (Nat.le_refl _)).2,←hi,ih _ hc.2 fun j hj=>h j (by omega)]
  ·have e1:Cx L i=[]:=by unfold Cx;rw[K9,dif_neg hc];rfl
   have e2:Cx L' i=[]:=by unfold Cx;rw[K9,dif_neg (by rw[←hi];exact hc)];rfl
   rw[e1,e2]
theorem L3 {L L':List Nd}{i:Nat}(h : ∀ j,j≤i→(tat L j).par=(tat L' j).par∧dcn (tat L j)=dcn (tat L' j)):Ba L i=Ba L' i:=by unfold Ba;rw[Q9 i h]
theorem O8 {L L':List Nd}{m:Nat}(h1:(tat L (2*m+1)).par=(tat L' (2*m+1)).par∧dcn (tat L (2*m+1))=dcn (tat L' (2*m+1)))(h2:(tat L (2*m+2)).par=(tat L' (2*m+2)).par∧dcn (tat L (2*m+2))=dcn (tat L' (2*m+2))):prB L m=prB L' m:=by
 have e1:=h1.2;unfold dcn at e1;injection e1 with f1 f2;injection f2 with f2 f3;unfold prB;rw[h1.1,h2.1,h1.2,h2.2,f1,f2]
theorem Rp {L L':List Nd}{m:Nat}(h1:(tat L (2*m+1)).par=(tat L' (2*m+1)).par):pp L m=pp L' m:=by unfold pp;rw[h1]
theorem Shp.same {L L':List Nd}{M:Nat}(h:Shp L M)(hl:L'.length=L.length)(hd : ∀ j,j < L.length→(tat L j).par=(tat L' j).par∧dcn (tat L j)=dcn (tat L' j))(hs : ∀ j,j < L.length→((tat L' j).st=1↔(tat L j).st=1))
  (hb : ∀ m,m < M→(tat L' (pp L m)).q≤(tat L' (2*m+1)).q∧(tat L' (pp L m)).q≤(tat L' (2*m+2)).q):Shp L' M:=by
 have hn:=h.len;have hpp : ∀ m,m < M→pp L m=pp L' m:=fun m hm=>Rp (hd _ (by omega)).1
 have hpd : ∀ i,i < L.length→Ba L i=Ba L' i:=fun i hi=>L3 fun j hj=>hd j (by omega)
 have hcn : ∀ i,cnt L M i=cnt L' M i:=fun i=>Lm hpp
 refine ⟨by omega,by rw[←(hd 0 (by omega)).1];exact h.rpar,by rw[←(hd 0 (by omega)).2];exact h.rdec,fun m hm => ?_,fun i hi => ?_,fun i hi => ?_,fun i hi => ?_,fun i hi => ?_,fun m hm => ?_⟩
 ·rw[←O8 (hd _ (by omega)) (hd _ (by omega))];exact h.prs m hm
 ·rw[←hpd i (by omega)];exact h.dep i (by omega)
 ·rw[←hpd i (by omega)];exact h.twn i (by omega)
 ·rw[←hcn];exact h.two i (by omega)
 ·rw[←hcn,hs i (by omega)];exact h.spl i (by omega)
 ·rw[←hpp m hm];exact hb m hm
theorem Shp.leaf {L:List Nd}{M i:Nat}(h:Shp L M)(hi:i < L.length)(hs:(tat L i).st≠1):cnt L M i=0:=by
 have h1:=Sq L M i;have h2:=J3 L M i;have h3:=h.two i hi;have h4:=mt (h.spl i hi).2 hs;omega
theorem Gq {L:List Nd}{f:Bool}{z:Int}{i:Nat}(h:i < L.length):tat (clL L f z) i=clN f z (tat L i):=by
 unfold tat clL;rw[List.getD_eq_getElem?_getD,List.getD_eq_getElem?_getD,List.getElem?_map,List.getElem?_eq_getElem h];rfl
theorem Abe (L:List Nd)(f:Bool)(z:Int):(clL L f z).length=L.length:=List.length_map _
theorem Abc (f:Bool)(z:Int)(x:Nd):(clN f z x).par=x.par:=by unfold clN;split <;> rfl
theorem Abd (f:Bool)(z:Int)(x:Nd):dcn (clN f z x)=dcn x:=by unfold clN;split <;> rfl
theorem Su (f:Bool)(z:Int)(x:Nd):(clN f z x).q=x.q:=by unfold clN;split <;> rfl
theorem Qw (f:Bool)(z:Int)(x:Nd):(clN f z x).st=if x.st=0∧DH f z x.q=true then 2 else x.st:=by unfold clN;split <;> rfl
structure Mid (L:List Nd) (f:Bool) (z:Int) (M:Nat):Prop where
 shp:Shp L M
 big:M≤999
 cst:BG z=true
 zer:z=0∨f=true
 ok : ∀ i,i < L.length→okc (tat L i).q=true
 st0 : ∀ i,i < L.length→0≤(tat L i).st∧(tat L i).st≤2
 cl : ∀ i,i < L.length→(tat L i).st=2→DH f z (tat L i).q=true
theorem Mid.vld {L:List Nd}{f:Bool}{z:Int}{M:Nat}(h:Mid L f z M):Vld (clL L f z) f z M:=by
 have hl:=Abe L f z;refine ⟨h.shp.same hl (fun j hj => ?_) (fun j hj => ?_) (fun m hm => ?_),h.big,h.cst,h.zer,fun i hi => ?_,fun i hi => ?_,fun i hi hne => ?_⟩
 ·rw[Gq hj,Abc,Abd];exact ⟨rfl,rfl⟩
 ·rw[Gq hj,Qw]
  split
  ·rename_i hc;constructor <;> intro hh <;> omega
  ·exact Iff.rfl
 ·have hn:=h.shp.len
  obtain ⟨p1,p2,p3,_,_⟩:=EM (h.shp.prs m hm);rw[Gq (by omega),Gq (by omega),Gq (by omega),Su,Su,Su]
  exact h.shp.bnd m hm
 ·rw[hl] at hi;rw[Gq hi,Su];exact h.ok i hi
 ·rw[hl] at hi
  have:=h.st0 i hi;rw[Gq hi,Qw];split <;> omega
 ·rw[hl] at hi
  have h0:=h.st0 i hi;have hc:=h.cl i hi;rw[Gq hi,Qw] at hne;rw[Gq hi,Qw,Su];by_cases hh:(tat L i).st=0∧DH f z (tat L i).q=true
  ·rw[if_pos hh];exact ⟨fun _=>hh.2,fun _=>rfl⟩
  ·rw[if_neg hh] at hne ⊢
   constructor
   ·exact hc
   ·intro hs
    by_cases h2:(tat L i).st=0
    ·exact absurd ⟨h2,hs⟩ hh
    ·omega
theorem VA {z z':Int}{q:Rat}(h:DH true z q=true)(hz:z'≤z):DH true z' q=true:=by
 unfold DH at h ⊢;simp only[Bool.true_and,Bool.and_eq_true,decide_eq_true_eq] at h ⊢;exact ⟨h.1,by omega⟩
theorem Vld.mid {L:List Nd}{f:Bool}{z:Int}{M:Nat}(h:Vld L f z M):Mid L f z M:=⟨h.shp,h.big,h.cst,h.zer,h.ok,h.st0,fun i hi hs=>(h.cl i hi (by omega)).1 hs⟩
theorem Acy {L:List Nd}{x:Ch}(h:raE L x=0) : ∃ i:Nat,x.node=(i:Int)∧i < L.length∧okc x.q=true∧(tat L i).st=0:=by
 unfold raE at h;by_cases h1:x.node < 0∨(L.length:Int)≤x.node
 ·rw[if_pos h1] at h;omega
 ·rw[if_neg h1] at h
  cases h3:okc x.q with
  | false=>rw[h3,if_pos rfl] at h;omega
  | true =>
   rw[h3,if_neg (by decide)] at h
   refine ⟨x.node.toNat,by omega,by omega,rfl,?_⟩
   by_cases h4:(tat L x.node.toNat).st=0
   ·exact h4
   ·rw[if_pos h4] at h;omega
theorem VM {L:List Nd}{f:Bool}{z:Int}{M:Nat}{x:Ch}(h:Vld L f z M)(hc:raE L x=0):Mid (raL L x) f z M:=by
 obtain ⟨i,hni,hi,hok,hst⟩:=Acy hc;have ht:x.node.toNat=i:=by omega
 unfold raL;rw[ht];by_cases hq:(tat L i).q < x.q
 ·rw[if_pos hq]
  have hl:(L.set i ⟨(tat L i).par,(tat L i).fst,(tat L i).nxt,(tat L i).tog,x.q,(tat L i).st⟩).length=L.length:=List.length_set;have hat:=fun j=>Pu (L:=L) (j:=j) (y:=⟨(tat L i).par,(tat L i).fst,(tat L i).nxt,(tat L i).tog,x.q,(tat L i).st⟩) hi
  generalize L.set i ⟨(tat L i).par,(tat L i).fst,(tat L i).nxt,(tat L i).tog,x.q,(tat L i).st⟩=L' at *;have hd : ∀ j,(tat L j).par=(tat L' j).par∧dcn (tat L j)=dcn (tat L' j)∧(tat L' j).st=(tat L j).st∧(j≠i→(tat L' j).q=(tat L j).q)∧(tat L j).q≤(tat L' j).q:=fun j=>by
   rw[hat j];by_cases hij:i=j
   ·subst hij;rw[if_pos rfl];exact ⟨rfl,rfl,rfl,fun h=>absurd rfl h,by show (tat L i).q≤x.q;grind⟩
   ·rw[if_neg hij];exact ⟨rfl,rfl,rfl,fun _=>rfl,by grind⟩
  have hi2:=hat i;rw[if_pos rfl] at hi2;have hleaf:=So (h.shp.leaf hi (by omega))
  refine ⟨h.shp.same hl (fun j _=>⟨(hd j).1,(hd j).2.1⟩) (fun j _=>by rw[(hd j).2.2.1]) (fun m hm => ?_),h.big,h.cst,h.zer,fun j hj => ?_,fun j hj => ?_,fun j hj hs => ?_⟩
  ·have:=h.shp.bnd m hm
   rw[(hd _).2.2.2.1 (hleaf m hm)];have a:=(hd (2*m+1)).2.2.2.2;have b:=(hd (2*m+2)).2.2.2.2;exact ⟨by grind,by grind⟩
  ·by_cases hij:j=i
   ·subst hij;rw[hi2];exact hok
   ·rw[(hd j).2.2.2.1 hij];exact h.ok j (by omega)
  ·rw[(hd j).2.2.1];exact h.st0 j (by omega)
  ·rw[(hd j).2.2.1] at hs
   by_cases hij:j=i
   ·subst hij;omega
   ·rw[(hd j).2.2.2.1 hij];exact h.mid.cl j (by omega) hs
 ·rw[if_neg hq];exact h.mid
theorem Y9 {L:List Nd}{f:Bool}{z:Int}{M:Nat}{x:Ch}(h:Vld L f z M)(hc:fiE x=0):Mid L (fnF f z x).1 (fnF f z x).2 M:=by
 have hcost:BG x.cost=true:=by
  unfold fiE at hc;cases h1:BG x.cost with
  | true=>rfl
  | false=>rw[h1] at hc;exact absurd hc (by decide)
 have hm:=h.mid;unfold fnF;by_cases hf:f=false∨x.cost < z
 ·rw[if_pos hf]
  refine ⟨h.shp,h.big,hcost,.inr rfl,h.ok,h.st0,fun i hi hs => ?_⟩
  have hs2:=hm.cl i hi hs;cases f with
  | false=>exact absurd hs2 (by unfold DH;simp)
  | true=>exact VA hs2 (show x.cost≤z from hf.elim (fun hh=>by cases hh) (fun hh=>by omega))
 ·rw[if_neg hf];exact hm
theorem Ace {L:List Nd}{x:Ch}(h:spE L x=0) : ∃ i:Nat,x.node=(i:Int)∧i < L.length∧0≤x.fst∧0≤x.nxt∧x.fst≠x.nxt∧(tat L i).st=0∧L.length+2≤2000∧(Ba L i).length < 32∧Ev L i x.fst x.nxt=false:=by
 unfold spE at h;by_cases h0:x.node < 0∨(L.length:Int)≤x.node∨x.fst < 0∨x.nxt < 0∨x.fst=x.nxt
 ·rw[if_pos h0] at h;omega
 ·rw[if_neg h0] at h
  obtain ⟨i,hni⟩ : ∃ i:Nat,x.node=(i:Int):=⟨x.node.toNat,by omega⟩
  have ht:x.node.toNat=i:=by omega
  rw[ht] at h;by_cases h4:(tat L i).st=0
  ·rw[if_neg (by simp[h4])] at h
   by_cases h7:2000 < L.length+2∨32≤(Ba L i).length
   ·rw[if_pos h7] at h;omega
   ·rw[if_neg h7] at h
    cases h9:Ev L i x.fst x.nxt with
    | true=>rw[h9,if_pos rfl] at h;omega
    | false=>exact ⟨i,hni,by omega,by omega,by omega,by omega,h4,by omega,by omega,h9⟩
  ·rw[if_pos h4] at h;omega
theorem Acd {L:List Nd}{x:Ch}{i:Nat}(ht:x.node.toNat=i)(hi:i < L.length):(spL L x).length=L.length+2∧(∀ j,j < L.length→(tat (spL L x) j).par=(tat L j).par∧dcn (tat (spL L x) j)=dcn (tat L j)∧(tat (spL L x) j).q=(tat L j).q∧(tat (spL L x) j).st=if j=i then 1 else (tat L j).st)∧tat (spL L x) L.length=kid L x true∧tat (spL L x) (L.length+1)=kid L x false:=by
 have hm:=EO L i;refine ⟨by unfold spL;rw[ht,List.length_append,hm];rfl,fun j hj => ?_,?_,?_⟩
 ·unfold spL
  rw[ht,QJ (by omega)]
  unfold Bk;rw[Pu hi];by_cases hij:i=j
  ·subst hij;rw[if_pos rfl,if_pos rfl];exact ⟨rfl,rfl,rfl,rfl⟩
  ·rw[if_neg hij,if_neg (Ne.symm hij)];exact ⟨rfl,rfl,rfl,rfl⟩
 ·unfold tat spL
  rw[ht,List.getD_eq_getElem?_getD,List.getElem?_append_right (by omega),hm,Nat.sub_self];rfl
 ·unfold tat spL
  rw[ht,List.getD_eq_getElem?_getD,List.getElem?_append_right (by omega),hm,show L.length+1 - L.length=1 by omega];rfl
theorem Vy {L:List Nd}{f:Bool}{z:Int}{M:Nat}{x:Ch}(h:Vld L f z M)(hc:spE L x=0):Mid (spL L x) f z (M+1):=by
 obtain ⟨i,hni,hi,g1,g2,g3,hst,hlen,hdep,hdec⟩:=Ace hc;have ht:x.node.toNat=i:=by omega
 obtain ⟨hl,hat,ka,kb⟩:=Acd ht hi;have hn:=h.shp.len;have hS:=h.shp;have hleaf:=h.shp.leaf hi (by omega)
 unfold kid at ka kb;rw[ht] at ka kb;generalize spL L x=L' at *;rw[hn] at ka kb;have hpd : ∀ j,j < L.length→Ba L j=Ba L' j:=fun j hj=>L3 fun k hk=>⟨(hat k (by omega)).1.symm,(hat k (by omega)).2.1.symm⟩
 have hpp : ∀ m,m < M→pp L m=pp L' m:=fun m hm=>Rp (hat _ (by omega)).1.symm
 have ppM:pp L' M=i:=by unfold pp;rw[ka];exact ht
 have pa:(tat L' (2*M+1)).par=(i:Int):=by rw[ka];exact hni
 have pb:(tat L' (2*M+1+1)).par=(i:Int):=by rw[kb];exact hni
 have pathA:Ba L' (2*M+1)=Ba L i++[(x.fst,x.nxt,true)]:=by
  rw[Cw pa (by omega),←hpd i hi,ka];rfl
 have Rr:Ba L' (2*M+1+1)=Ba L i++[(x.fst,x.nxt,false)]:=by
  rw[Cw pb (by omega),←hpd i hi,kb];rfl
 have three : ∀ j,j < L'.length→j < L.length∨j=2*M+1∨j=2*M+1+1:=fun j hj=>by omega
 have cnt' : ∀ j,cnt L' (M+1) j=if i=j then cnt L M j+2 else cnt L M j:=fun j=>by
  rw[cnt,ppM,←Lm (L:=L) (L':=L') hpp]
 have cntOut : ∀ j,2*M+1≤j→cnt L M j=0:=fun j hj=>Sn fun k hk=>by
  have:=(EM (hS.prs k hk)).2.2.1;omega
 refine ⟨⟨by omega,?_,?_,fun m hm => ?_,fun j hj => ?_,fun j hj => ?_,fun j hj => ?_,fun j hj => ?_,fun m hm => ?_⟩,by omega,h.cst,h.zer,fun j hj => ?_,fun j hj => ?_,fun j hj hs => ?_⟩
 ·rw[(hat 0 (by omega)).1];exact hS.rpar
 ·rw[(hat 0 (by omega)).2.1];exact hS.rdec
 ·by_cases hmM:m < M
  ·rw[←O8 ⟨(hat _ (by omega)).1.symm,(hat _ (by omega)).2.1.symm⟩ ⟨(hat _ (by omega)).1.symm,(hat _ (by omega)).2.1.symm⟩];exact hS.prs m hmM
  ·have:m=M:=by omega
   subst this;unfold prB;rw[ka,show 2*m+2=2*m+1+1 from rfl,kb];simp[dcn,g1,g2,g3];omega
 ·rcases three j hj with hj | rfl | rfl
  ·rw[←hpd j hj];exact hS.dep j hj
  ·rw[pathA,List.length_append];show _+1≤32;omega
  ·rw[Rr,List.length_append];show _+1≤32;omega
 ·have hd:=Kw.1 hdec
  rcases three j hj with hj | rfl | rfl
  ·rw[←hpd j hj];exact hS.twn j hj
  ·rw[pathA,Ei];exact ⟨hS.twn i hi,hd⟩
  ·rw[Rr,Ei];exact ⟨hS.twn i hi,hd⟩
 ·rw[cnt']
  by_cases hij:i=j
  ·rw[if_pos hij,←hij,hleaf];omega
  ·rw[if_neg hij]
   rcases three j hj with hj | hj | hj
   ·exact hS.two j hj
   ·rw[cntOut j (by omega)];omega
   ·rw[cntOut j (by omega)];omega
 ·rw[cnt']
  by_cases hij:i=j
  ·rw[if_pos hij,←hij,hleaf,(hat i hi).2.2.2,if_pos rfl]
   exact ⟨fun _=>rfl,fun _=>rfl⟩
  ·rw[if_neg hij]
   rcases three j hj with hj | rfl | rfl
   ·rw[(hat j hj).2.2.2,if_neg (Ne.symm hij)];exact hS.spl j hj
   ·rw[cntOut _ (by omega),ka];constructor <;> intro hh <;> simp at hh
   ·rw[cntOut _ (by omega),kb];constructor <;> intro hh <;> simp at hh
 ·by_cases hmM:m < M
  ·have:=hS.bnd m hmM
   have p3:=(EM (hS.prs m hmM)).2.2.1;rw[←hpp m hmM,(hat _ (by omega)).2.2.1,(hat _ (by omega)).2.2.1,(hat _ (by omega)).2.2.1];exact this
  ·have:m=M:=by omega
   subst this;rw[ppM,ka,show 2*m+2=2*m+1+1 from rfl,kb,(hat i hi).2.2.1];exact ⟨by grind,by grind⟩
 ·rcases three j hj with hj | rfl | rfl
  ·rw[(hat j hj).2.2.1];exact h.ok j hj
  ·rw[ka];exact h.ok i hi
  ·rw[kb];exact h.ok i hi
 ·rcases three j hj with hj | rfl | rfl
  ·have:=h.st0 j hj
   rw[(hat j hj).2.2.2];split <;> omega
  ·rw[ka];exact ⟨Int.le_refl _,by show (0:Int)≤2;decide⟩
  ·rw[kb];exact ⟨Int.le_refl _,by show (0:Int)≤2;decide⟩
 ·rcases three j hj with hj | rfl | rfl
  ·rw[(hat j hj).2.2.2] at hs
   by_cases hij:j=i
   ·rw[if_pos hij] at hs;omega
   ·rw[if_neg hij] at hs
    rw[(hat j hj).2.2.1];exact h.mid.cl j hj hs
  ·rw[ka] at hs;cases hs
  ·rw[kb] at hs;cases hs
theorem Abg {L:List Nd}{f:Bool}{z:Int}{M:Nat}{x:Ch}(h:Vld L f z M)(hc:chE L x=0) : ∃ M',Vld (chS L f z x).1 (chS L f z x).2.1 (chS L f z x).2.2 M':=by
 unfold chE at hc;unfold chS chM;by_cases k1:x.kind=1
 ·rw[if_pos k1] at hc ⊢
  exact ⟨M,(VM h hc).vld⟩
 ·rw[if_neg k1] at hc ⊢
  by_cases k2:x.kind=2
  ·rw[if_pos k2] at hc ⊢
   exact ⟨M+1,(Vy h hc).vld⟩
  ·rw[if_neg k2] at hc ⊢
   by_cases k3:x.kind=3
   ·rw[if_pos k3] at hc
    exact ⟨M,(Y9 h hc).vld⟩
   ·rw[if_neg k3] at hc;omega
theorem AcZ {L:List Nd}{f:Bool}{z:Int}{x:Ch}(h:tvc L f z=0)(hc:chE L x=0):tvc (chS L f z x).1 (chS L f z x).2.1 (chS L f z x).2.2=0:=by
 obtain ⟨M,hv⟩:=Pq.1 h;exact Pq.2 (Abg hv hc)
theorem Z7 {L:List Nd}{f:Bool}{z:Int}{x:Ch}(hc:apC L f z x=0):tvc L f z=0∧chE L x=0∧apS L f z x=chS L f z x∧tvc (apS L f z x).1 (apS L f z x).2.1 (apS L f z x).2.2=0:=by
 have h0:tvc L f z=0:=by
  unfold apC at hc;by_cases h:tvc L f z=0
  ·exact h
  ·rw[if_pos h] at hc;exact hc
 have h1:chE L x=0:=by
  unfold apC at hc;rw[if_neg (fun h=>h h0)] at hc
  exact hc
 have e:apS L f z x=chS L f z x:=by unfold apS;rw[if_pos hc]
 exact ⟨h0,h1,e,by rw[e];exact AcZ h0 h1⟩
theorem XE {q:Rat}(h:okc q=true):Vld (CS q) false 0 0:=by
 have z : ∀ i,i < (CS q).length→i=0:=fun i hi=>by have:i < 1:=hi;omega
 refine ⟨⟨rfl,rfl,rfl,fun m hm=>by omega,fun i hi => ?_,fun i hi => ?_,fun i hi => ?_,fun i hi => ?_,fun m hm=>by omega⟩,by omega,by decide,.inl rfl,fun i hi => ?_,fun i hi => ?_,fun i hi hne => ?_⟩
 ·rw[z i hi,Dw];exact Nat.zero_le _
 ·rw[z i hi,Dw];exact List.Pairwise.nil
 ·rw[cnt];omega
 ·rw[z i hi,cnt];constructor <;> intro hh <;> cases hh
 ·rw[z i hi];exact h
 ·rw[z i hi];exact ⟨Int.le_refl _,by show (0:Int)≤2;decide⟩
 ·rw[z i hi]
  constructor
  ·intro hh;cases hh
  ·intro hh;unfold DH at hh;simp at hh
def BS (x m:Int):Int:=IntKind.i64.wrap ((BitVec.ofInt 64 x &&& BitVec.ofInt 64 m).toNat:Int)
def Dk (x:Int)(k:Nat):Int:=x.fdiv (2 ^ k)
theorem DB (x m:Int)(h0:0≤m)(hm:m < 4611686018427387904):0≤BS x m∧BS x m≤m:=by
 obtain ⟨m,rfl⟩:=Int.eq_ofNat_of_zero_le h0;have h:(BitVec.ofInt 64 x &&& BitVec.ofInt 64 (m:Int)).toNat≤m:=by
  rw[BitVec.toNat_and];refine Nat.le_trans Nat.and_le_right ?_;rw[BitVec.ofInt_natCast,BitVec.toNat_ofNat];exact Nat.mod_le _ _
 unfold BS;generalize (BitVec.ofInt 64 x &&& BitVec.ofInt 64 (m:Int)).toNat=k at *;rw[IntWalk.i64_in _ ⟨by omega,by omega⟩]
 omega
section
variable {P:Program}
theorem Fq (t:TypeId)(x y:Int):Bx P (.bin .and t) [li x,li y] (li (BS x y)):=BE (vs:=[.int .i64 x,.int .i64 y]) fun w=>by
 rfl
theorem K6 (t:TypeId)(x:Int)(k:Nat)(hk:k≤64:=by omega):Bx P (.bin .shr t) [li x,B0 (.int .u64 (k:Int))] (li (Dk x k)):=BE (vs:=[.int .i64 x,.int .u64 (k:Int)]) fun w=>by
 have h : ¬ ((k:Int) < 0):=by omega
 simp[OpK.run,eqGuard,binOp,Op.shift,Dk,h,IntKind.bits,Nat.min_eq_left hk];exact (Int.fdiv_eq_ediv_of_nonneg _ (Int.le_of_lt (Int.pow_pos (by decide)))).symm
end
def atS (l:List Int)(i:Nat):Int:=if l.length=0 then BS (i:Int) 65535 else BS (iat l (i % l.length)) 65535+((i / l.length:Nat):Int)
def BB (n:Int):Rat:=Rat.divInt (BS n 15 - 5) (1+BS (Dk n 4) 3)
theorem AcD {z:Int}(h : -100≤z)(h':z≤100):Lim 1 z:=by unfold Lim;omega
theorem RQ (n:Int):Lq (BB n) 12:=by
 have h1:=DB n 15 (by omega) (by omega)
 have h2:=DB (Dk n 4) 3 (by omega) (by omega)
 unfold BB;exact ⟨(Fj (AcD (by omega) (by omega))).mono (by omega),(Ge (AcD (by omega) (by omega)) (by omega)).mono (by omega),by omega⟩
theorem Aaw {q:Rat}(h:Lim 1 q.num):okc q=true:=by
 have:=AaZ h;unfold Lim at this;unfold okc;exact decide_eq_true ⟨by omega,by omega⟩
theorem Nt (n:Int):okc (BB n)=true:=by
 have h1:=DB n 15 (by omega) (by omega)
 have h2:=DB (Dk n 4) 3 (by omega) (by omega)
 exact Aaw (Fj (AcD (by omega) (by omega)))
section
variable {I:WInv}{c c':Bool}
theorem Mf (n:Int):Sp Tryz.prog I 27 [ci n] (tfc true 12 (BB n)):=by
 have h1:=DB n 15 (by omega) (by omega)
 have h2:=DB (Dk n 4) 3 (by omega) (by omega)
 have e:BB n=(((BS n 15 - 5:Int)):Rat) / (((1+BS (Dk n 4) 3:Int)):Rat):=Rat.divInt_eq_div _ _;have hdiv:Sp Tryz.prog I 68 [fc true 2 (((BS n 15 - 5:Int)):Rat),fc true 2 (((1+BS (Dk n 4) 3:Int)):Rat)] (tfc true 12 (BB n)):=by
  have h:=(AcT (I:=I) (c:=true) (c':=true) (p:=(((BS n 15 - 5:Int)):Rat)) (q:=(((1+BS (Dk n 4) 3:Int)):Rat))).wk (args':=[fc true 2 (((BS n 15 - 5:Int)):Rat),fc true 2 (((1+BS (Dk n 4) 3:Int)):Rat)]) ⟨UE (by omega),UE (by omega),trivial⟩
  rw[←e] at h;exact h.rs (UG (RQ n)).tv
 exact sr 13 [pk (Fq 3 n 15),pk (Sz 3 (BS n 15) 5 ⟨by omega,by omega⟩),po (Yu (I:=I) ((BS n 15) - 5) ⟨by omega,by omega⟩),pk (K6 3 n 4),pk (Fq 3 (Dk n 4) 3),pk (Ay 3 1 (BS (Dk n 4) 3) ⟨by omega,by omega⟩),po (Yu (I:=I) (1+(BS (Dk n 4) 3)) ⟨by omega,by omega⟩),po (hdiv)]
theorem UW (l:List Int)(i:Nat)(hi:i≤100000)(hl:l.length≤35184372087808):Sp Tryz.prog I 21 [.t (slI 1 (l.map Ae)),ci (i:Int)] (li (atS l i)):=by
 unfold atS;by_cases h0:l.length=0
 ·rw[if_pos h0]
  exact sr 23 [pk (Al 40 3 3 1 ((l).map (Ae)) ((l).length:Int)),pk (Ar 3 ((l).length:Int) 0),pk (Fq 3 (i:Int) 65535)]
 ·rw[if_neg h0]
  have h1:=DB (iat l (i % l.length)) 65535 (by omega) (by omega)
  have h2:=Nat.div_le_self i l.length;have h3:=Nat.mod_lt i (Nat.pos_of_ne_zero h0);have e1:((i:Int)).tmod (l.length:Int)=((i % l.length:Nat):Int):=by rw[Int.tmod_eq_emod_of_nonneg (by omega)];rfl
  have e2:((i:Int)).tdiv (l.length:Int)=((i / l.length:Nat):Int):=by rw[Int.tdiv_eq_ediv_of_nonneg (by omega)];rfl
  generalize i / l.length=q at *;have hq:=e2;exact sr 23 [pk (Al 40 3 3 1 ((l).map (Ae)) ((l).length:Int)),pk (Ag 3 ((l).length:Int) 0),pk (Al 40 3 3 1 ((l).map (Ae)) ((l).length:Int)),pk (DJ 3 (i:Int) (l.length:Int) (by omega)),pk (Aj 40 3 1 ((l).map (Ae)) (i % l.length) (((i:Int)).tmod ((l).length:Int)) (Ae (iat l (i % l.length))) (AC h3)),pk (Fq 3 (iat l (i % l.length)) 65535),pk (Al 40 3 3 1 ((l).map (Ae)) ((l).length:Int)),pk (hq▸S0 3 (i:Int) (l.length:Int) (by omega) (by rw[hq];exact ⟨by omega,by omega⟩)),pk (Ay 3 (BS (iat l (i % l.length)) 65535) (q:Int) ⟨by omega,by omega⟩)]
end
def LO (n:Int):Ch :=
 if 1+BS n 3=1 then ⟨1+BS n 3,(Dk n 2).tmod 7,BB (Dk n 4),0,0,0⟩
 else if 1+BS n 3=2 then ⟨1+BS n 3,(Dk n 2).tmod 7,0,BS (Dk n 4) 3,BS (Dk n 6) 3,0⟩
 else if 1+BS n 3=3 then ⟨1+BS n 3,0,0,0,0,BS (Dk n 4) 31 - 8⟩
 else ⟨1+BS n 3,(Dk n 2).tmod 7,0,0,0,0⟩
theorem QT {N:Nat→Prop}{w:World}{g:Gh} : ∀ {xs ys:List It} {l:List Value},Bi N w g (xs++ys) l → ∃ l1 l2,l=l1++l2∧Bi N w g xs l1∧Bi N w g ys l2
 | [],_,l,h=>⟨[],l,rfl,rfl,h⟩
 | x::xs,_,l,⟨a,b,e,h1,h2⟩=>by
  obtain ⟨c,d,e2,h3,h4⟩:=QT h2;exact ⟨a++c,d,by rw[e,e2,List.append_assoc],⟨a,c,rfl,h1,h3⟩,h4⟩
theorem ILe.app {a a' b b':List It}(h:ILe a a')(h':ILe b b'):ILe (a++b) (a'++b'):=fun N w g x hx=>by
 obtain ⟨l1,l2,e,h1,h2⟩:=QT hx;rw[e];exact C8 (h N w g l1 h1) (h' N w g l2 h2)
theorem AbR:ILe zl [.b (.it (fF false 12 0))]:=by
 intro N w g x hx;have h:=AcJ (c:=false) (k:=1) (k':=12) (q:=0) (by omega) N w g _ (WX N w g (.agg x.toArray) ⟨x,rfl,hx⟩)
 obtain ⟨vs,e,hv⟩:=h;injection e with e;have e:=congrArg Array.toList e;simp only at e;subst e;exact hv
theorem TC {k n a b z:Value}:CTle (.ag ([.b (.lit k),.b (.lit n)]++(zl++[.b (.lit a),.b (.lit b),.b (.lit z)]))) (.ag ([.b (.lit k),.b (.lit n)]++([.b (.it (fF false 12 0))]++[.b (.lit a),.b (.lit b),.b (.lit z)]))):=(ILe.refl.app (AbR.app ILe.refl)).ag
section
variable {I:WInv}{c c':Bool}
theorem AcY (l:List Int)(i:Nat)(hi:i≤100000)(hl:l.length≤35184372087808):Sp Tryz.prog I 19 [.t (slI 1 (l.map Ae)),ci (i:Int)] (.cv (chT false (LO (atS l i)))):=by
 have ha:=UW (I:=I) l i hi hl;generalize atS l i=n at *;have h3:=DB n 3 (by omega) (by omega)
 have h31:=DB (Dk n 4) 31 (by omega) (by omega)
 unfold LO;by_cases k1:1+BS n 3=1
 ·rw[if_pos k1]
  refine Sp.rs ?_ (CTle.tv (ILe.ag (ILe.cons XLe.refl (ILe.cons XLe.refl (ILe.cons (AbG (c:=true) (k:=12) (fun h=>by cases h) (Nat.le_refl _) rfl).x ILe.refl)))))
  exact sr 44 [po (ha),pk (Fq 3 n 3),pk (Ay 3 1 (BS n 3) ⟨by omega,by omega⟩),pk (K6 3 n 2),pk (DJ 3 (Dk n 2) 7 (by omega)),pk (AO 3 (1+(BS n 3)) 1 true (decide_eq_true (by omega))),pk (K6 3 n 4),po (Mf (I:=I) (Dk n 4))]
 ·rw[if_neg k1]
  by_cases k2:1+BS n 3=2
  ·rw[if_pos k2]
   refine Sp.rs ?_ (TC (a := .int .i64 (BS (Dk n 4) 3)) (b := .int .i64 (BS (Dk n 6) 3)) (z := .int .i64 0)).tv;exact sr 44 [po (ha),pk (Fq 3 n 3),pk (Ay 3 1 (BS n 3) ⟨by omega,by omega⟩),pk (K6 3 n 2),pk (DJ 3 (Dk n 2) 7 (by omega)),pk (AO 3 (1+(BS n 3)) 1 false (decide_eq_false (by omega))),pk (AO 3 (1+(BS n 3)) 2 true (decide_eq_true (by omega))),pk (K6 3 n 4),pk (Fq 3 (Dk n 4) 3),pk (K6 3 n 6),pk (Fq 3 (Dk n 6) 3)]
  ·rw[if_neg k2]
   by_cases k3:1+BS n 3=3
   ·rw[if_pos k3]
    refine Sp.rs ?_ (TC (a := .int .i64 0) (b := .int .i64 0) (z := .int .i64 (BS (Dk n 4) 31 - 8))).tv;exact sr 44 [po (ha),pk (Fq 3 n 3),pk (Ay 3 1 (BS n 3) ⟨by omega,by omega⟩),pk (K6 3 n 2),pk (DJ 3 (Dk n 2) 7 (by omega)),pk (AO 3 (1+(BS n 3)) 1 false (decide_eq_false (by omega))),pk (AO 3 (1+(BS n 3)) 2 false (decide_eq_false (by omega))),pk (AO 3 (1+(BS n 3)) 3 true (decide_eq_true (by omega))),pk (K6 3 n 4),pk (Fq 3 (Dk n 4) 31),pk (Sz 3 (BS (Dk n 4) 31) 8 ⟨by omega,by omega⟩)]
   ·rw[if_neg k3]
    refine Sp.rs ?_ (TC (a := .int .i64 0) (b := .int .i64 0) (z := .int .i64 0)).tv;exact sr 44 [po (ha),pk (Fq 3 n 3),pk (Ay 3 1 (BS n 3) ⟨by omega,by omega⟩),pk (K6 3 n 2),pk (DJ 3 (Dk n 2) 7 (by omega)),pk (AO 3 (1+(BS n 3)) 1 false (decide_eq_false (by omega))),pk (AO 3 (1+(BS n 3)) 2 false (decide_eq_false (by omega))),pk (AO 3 (1+(BS n 3)) 3 false (decide_eq_false (by omega)))]
end
section
variable {I:WInv}{c:Bool}
theorem SE (L:List Nd)(f:Bool)(z:Int)(hL:L.length=1)(q1:(tat L 0).par = -1)(q2:dcn (tat L 0)=(0,0,false))(q3:(tat L 0).st=0):Sp Tryz.prog I 120 [trT c L f z] (lb true):=by
 have h00:0 < L.length:=by omega
 have lo:LoopTr Tryz.prog I 195 (AK Tryz.prog 120 0) ⟨[(1,.p 0 0),(4,.s 27),(5,.s 32),(6,.i 1)],[(27,some ⟨3,some (1,L.length),Aa ((List.replicate L.length 0).map Ae)⟩),(32,some ⟨3,some (1,L.length),Aa ((List.replicate L.length 0).map Ae)⟩),(0,some ⟨46,none,[.b (.it (slI 9 ((L).map (Ac c)))),.o f,.i z]⟩)],50⟩ (.exit 0) ⟨[(1,.p 0 0),(5,.s 32)],[(27,some ⟨3,some (1,L.length),Aa ((List.replicate L.length 0).map Ae)⟩),(32,some ⟨3,some (1,L.length),Aa ((List.replicate L.length 0).map Ae)⟩),(0,some ⟨46,none,[.b (.it (slI 9 ((L).map (Ac c)))),.o f,.i z]⟩)],50⟩:=Bq (by simp) (fun _=>⟨[(1,.p 0 0),(4,.s 27),(5,.s 32),(6,.i 1)],[(27,some ⟨3,some (1,L.length),Aa ((List.replicate L.length 0).map Ae)⟩),(32,some ⟨3,some (1,L.length),Aa ((List.replicate L.length 0).map Ae)⟩),(0,some ⟨46,none,[.b (.it (slI 9 ((L).map (Ac c)))),.o f,.i z]⟩)],50⟩) 0 (fun m hm=>absurd hm (Nat.not_lt_zero _)) (by
  exact Rnd.cut2 (n:=50) (show Rnd _ _ _ _ _ _ ⟨[(1,.p 0 0),(5,.s 32)],[(27,some ⟨3,some (1,L.length),Aa ((List.replicate L.length 0).map Ae)⟩),(32,some ⟨3,some (1,L.length),Aa ((List.replicate L.length 0).map Ae)⟩),(0,some ⟨46,none,[.b (.it (slI 9 ((L).map (Ac c)))),.o f,.i z]⟩)],55⟩ from rr [pk (Al 44 103 3 9 ((L).map (Ac c)) ((L).length:Int)),pk (Ai 3 1 ((L).length:Int))]) rfl)
 have lo2:LoopTr Tryz.prog I 195 (AK Tryz.prog 120 1) ⟨[(5,.s 32),(178,.t (slI 9 ((L).map (Ac c)))),(179,.i (L.length:Int)),(180,.i ((0:Nat):Int))],[(32,some ⟨3,some (1,L.length),Aa ((List.replicate L.length 0).map Ae)⟩)],90⟩ (.exit 2) ⟨[],[],50⟩:=Bq (by simp) (fun i=>⟨[(5,.s 32),(178,.t (slI 9 ((L).map (Ac c)))),(179,.i (L.length:Int)),(180,.i (i:Int))],[(32,some ⟨3,some (1,L.length),Aa ((List.replicate L.length 0).map Ae)⟩)],90⟩) L.length (fun i hi=>by
  have ci:i < (List.replicate L.length (0:Int)).length:=by rw[List.length_replicate];exact hi
  have h1 : ¬ (tat L i).st=1:=by rw[show i=0 by omega,q3];decide
  have h2 : ¬ 0 < iat (List.replicate L.length 0) i:=by rw[ES];decide
  exact Rnd.cut (n:=90) (show Rnd _ _ _ _ _ _ ⟨[(5,.s 32),(178,.t (slI 9 ((L).map (Ac c)))),(179,.i (L.length:Int)),(180,.i ((i:Int)+1))],[(32,some ⟨3,some (1,L.length),Aa ((List.replicate L.length 0).map Ae)⟩)],108⟩ from rr [pk (Ak 3 (i:Int) (L.length:Int)),pk (Aj 44 103 9 ((L).map (Ac c)) i (i:Int) ((Ac c) (tat L i)) (An hi)),pk (Ag 3 ((tat L i).st) 1),⟨.ix (i:Int) i L.length,⟨by omega,by omega⟩⟩,⟨.part (Aa ((List.replicate L.length 0).map Ae)) (i*1) 1 [.i (iat (List.replicate L.length 0) (i))],(Bh (D:=List.replicate L.length 0) ci)⟩,pk (Au 3 (iat (List.replicate L.length 0) (i)) 0),pa,pk (Ay 3 (i:Int) 1 ⟨by omega,by omega⟩)]) rfl) (rr [pk (Ai 3 (L.length:Int) (L.length:Int))])
 simp only[Fz] at lo lo2;exact sr 195 [pk (Aj 44 103 9 ((L).map (Ac c)) 0 0 ((Ac c) (tat L 0)) (An h00)),pk (Ao 3 ((tat L 0).par) (-1)),pk (Cy (dcn (tat L 0)) (0,0,false) false (decide_eq_true q2)),pk (Al 44 103 3 9 ((L).map (Ac c)) ((L).length:Int)),pk (DJ 3 ((L).length:Int) 2 (by omega)),pk (AO 3 ((((L).length:Int)).tmod 2) 0 false (decide_eq_false (by rw[hL];decide))),pk (Al 44 103 3 9 ((L).map (Ac c)) ((L).length:Int)),⟨.mk ((L).length:Int) L.length 8,⟨rfl,by omega,by simp[maxLen];omega⟩⟩,⟨.mk ((L).length:Int) L.length 8,⟨rfl,by omega,by simp[maxLen];omega⟩⟩,pk (Al 44 103 3 9 ((L).map (Ac c)) ((L).length:Int)),⟨.mk ((L).length:Int) L.length 8,⟨rfl,by omega,by simp[maxLen];omega⟩⟩,⟨.mk ((L).length:Int) L.length 8,⟨rfl,by omega,by simp[maxLen];omega⟩⟩,pl (lo),pk (Al 44 103 3 9 ((L).map (Ac c)) ((L).length:Int)),pl (lo2)]
theorem Xk (L:List Nd)(hL:L.length=1)(q1:(tat L 0).par = -1)(q2:dcn (tat L 0)=(0,0,false))(q3:(tat L 0).st=0)(q4:okc (tat L 0).q=true):Sp Tryz.prog I 79 [trT c L false 0] (li 0):=by
 have hc:=Ml (I:=I) 0;rw[show BG 0=true by decide] at hc
 have hs:=SE (I:=I) (c:=c) L false 0 hL q1 q2 q3;have lo:LoopTr Tryz.prog I 80 (AK Tryz.prog 79 0) ⟨[(1,.p 0 0),(34,.t (slI 9 ((L).map (Ac c)))),(35,.i (L.length:Int)),(36,.i ((0:Nat):Int))],[(0,some ⟨46,none,[.b (.it (slI 9 ((L).map (Ac c)))),.o false,.i 0]⟩)],50⟩ (.exit 0) ⟨[(1,.p 0 0)],[(0,some ⟨46,none,[.b (.it (slI 9 ((L).map (Ac c)))),.o false,.i 0]⟩)],50⟩:=Bq (by simp) (fun i=>⟨[(1,.p 0 0),(34,.t (slI 9 ((L).map (Ac c)))),(35,.i (L.length:Int)),(36,.i (i:Int))],[(0,some ⟨46,none,[.b (.it (slI 9 ((L).map (Ac c)))),.o false,.i 0]⟩)],50⟩) L.length (fun i hi=>by
  have e0:i=0:=by omega
  have h1 : ¬ (tat L i).st < 0:=by rw[e0,q3];decide
  have h2 : ¬ 2 < (tat L i).st:=by rw[e0,q3];decide
  have e:=Fx (q:=(tat L i).q) (by rw[e0];exact q4)
  exact rr [pk (Ak 3 (i:Int) (L.length:Int)),pk (Aj 44 103 9 ((L).map (Ac c)) i (i:Int) ((Ac c) (tat L i)) (An hi)),pk (Ai 3 ((tat L i).st) 0),pk (Au 3 ((tat L i).st) 2),po (CF (I:=I) (c:=c) (p:=(tat L i).q)),pk (Ao 32 (cie ((tat L i).q)) 0),pk (Ay 3 (i:Int) 1 ⟨by omega,by omega⟩)]) (rr [pk (Ai 3 (L.length:Int) (L.length:Int))])
 have lo2:LoopTr Tryz.prog I 80 (AK Tryz.prog 79 1) ⟨[(1,.p 0 0),(61,.t (slI 9 ((L).map (Ac c)))),(62,.i (L.length:Int)),(63,.i ((0:Nat):Int))],[(0,some ⟨46,none,[.b (.it (slI 9 ((L).map (Ac c)))),.o false,.i 0]⟩)],50⟩ (.exit 2) ⟨[],[],50⟩:=Bq (by simp) (fun i=>⟨[(1,.p 0 0),(61,.t (slI 9 ((L).map (Ac c)))),(62,.i (L.length:Int)),(63,.i (i:Int))],[(0,some ⟨46,none,[.b (.it (slI 9 ((L).map (Ac c)))),.o false,.i 0]⟩)],50⟩) L.length (fun i hi=>by
  have e0:i=0:=by omega
  have h1 : ¬ (tat L i).st=1:=by rw[e0,q3];decide
  have h2 : ¬ (tat L i).st=2:=by rw[e0,q3];decide
  have hset:=Js (I:=I) (c:=c) L false 0 c (tat L i);rw[show DH false 0 (tat L i).q=false from rfl] at hset;exact rr [pk (Ak 3 (i:Int) (L.length:Int)),pk (Aj 44 103 9 ((L).map (Ac c)) i (i:Int) ((Ac c) (tat L i)) (An hi)),pk (AI 3 ((tat L i).st) 1),pk (Ag 3 ((tat L i).st) 2),po (hset),pa,pk (Ay 3 (i:Int) 1 ⟨by omega,by omega⟩)]) (rr [pk (Ai 3 (L.length:Int) (L.length:Int))])
 exact sr 80 [pk (Al 44 103 3 9 ((L).map (Ac c)) ((L).length:Int)),pk (Ai 3 ((L).length:Int) 1),pk (Al 44 103 3 9 ((L).map (Ac c)) ((L).length:Int)),pk (Au 3 ((L).length:Int) 2000),po (hc),pa,pa,pk (Al 44 103 3 9 ((L).map (Ac c)) ((L).length:Int)),pl (lo),po (hs),pa,pk (Al 44 103 3 9 ((L).map (Ac c)) ((L).length:Int)),pl (lo2)]
end
end Go.Proofs.YtdgbealknnmkoaaGreatDoor
