/- Texts of one proof, put together by a program: each lemma is proved for all values of its variables, under the premises that it states. -/
import Derived.Test.YtdgbealknnmkoaaGreatDoorP19f94b31
import Derived.Test.YtdgbealknnmkoaaGreatDoorP52bc364b
set_option linter.unusedVariables false
set_option linter.unusedSimpArgs false
namespace Go.Proofs.YtdgbealknnmkoaaGreatDoor
open Go.RowKit
set_option maxRecDepth 100000 in
theorem Ni {s:Bool}{A:Option Addr}{n c:Nat}{x:Int}(w:World)(ha:AInt w s A n c x)(hn:n≤1099511627776) :
  Calls Tryz.prog 147 #[.agg #[.bool s,.slice A n c]] w (RetInt w (-x)):=by
 obtain ⟨ds,h1,h2,h3,h4,rfl⟩:=ha;obtain ⟨W,hW,bW,pa,pr⟩:=SX w s A n c;have hz:sgn (!s) (val ds) = -sgn s (val ds):=by unfold sgn;cases s <;> simp
 have HM:=Lib.hid (JF (!s) W (h1.call bW) (Nat.le_refl _) h2 h3 h4 hn);rw[hz] at HM;have a0:=pa.cell0;have a1:=pa.cell1;clear hz;generalize -sgn s (val ds)=z at *;go_enter Tryz.func147,Tryz.ntmps147
 go_wp2_with fail
 rw[←hW];clear hW;refine HM.out.mono ?_;rintro e w2 ⟨neg,A2,n2,c2,rfl,ci,d2⟩;have p2:=pr.call d2;obtain ⟨q0,q1,f0,f1,k0,k1⟩:=p2.all (.bool neg) (.slice A2 n2 c2);go_wp2
 ((try simp only[Exit.inBlock,Exit.then]);refine bodyPost_ret (by simp[results,Tryz.results147,go_sem,k0,k1];try rfl) rfl ?_)
 exact RetInt.stored ci p2 (AA bW d2) (by omega)
def Two (w:World)(g g':Nat)(x y:Int)(wz:World):Prop :=
 ∃ s A n c t A' n' c',Pr wz g s A n c∧Pr wz g' t A' n' c'∧CInt wz s A n c x∧CInt wz t A' n' c' y∧Below w.heap.size w wz
theorem MP {x y:Int}(h:x < 0↔y < 0):Eg x y=if x < 0 then BT y.natAbs x.natAbs else BT x.natAbs y.natAbs:=by
 unfold Eg BT
 (repeat' split) <;> omega
set_option maxHeartbeats 1000000 in
set_option maxRecDepth 100000 in
theorem Mp {s t:Bool}{A A':Option Addr}{n n' c c':Nat}{x y:Int}(w:World)(ha:AInt w s A n c x)(hb:AInt w t A' n' c' y)(hn:n≤1099511627776)(hn':n'≤1099511627776) :
  Calls Tryz.prog 135 #[.agg #[.bool s,.slice A n c],.agg #[.bool t,.slice A' n' c']] w (Gk w (.int .i64 (Eg x y))):=by
 obtain ⟨W,hW,hS,pa,pb⟩:=Ul w s t A A' n n' c c';replace ha:=ha.call hS
 replace hb:=hb.call hS
 go_enter Tryz.func135,Tryz.ntmps135
 go_wp2_with fail
 rw[←hW];clear hW
 go_upto_region 1 with (fail)
 go_cut [] (fun wz=>Two w w.heap.size (w.heap.size+1) x y wz)
 case first =>
  have d0:=YO W
  (replace ha:=ha.call d0);(replace hb:=hb.call d0);(replace pa:=pa.call d0);(replace pb:=pb.call d0)
  replace hS:=AA hS d0
  clear d0;refine wp_region_held_drew (S:=fun _=>True) (by kernel_rfl) trivial (fun _ => ?_)
  generalize W.drew=u0 at *;refine wpAnyH_ready (rs:=[0,2]) (by kernel_rfl) (by simp) ?_
  refine AllReadyH.cons (o:=⟨_,_,_,_,_,_⟩) rfl (fun K hK => ?_) (AllReadyH.cons (o:=⟨_,_,_,_,_,_⟩) rfl (fun K hK => ?_) AllReadyH.nil)
  ·have c0:=pa.cell0
   have c1:=pa.cell1
   go_simp
   refine hK.out _ _ trivial (fun _ => ?_)
   clear hK K c0 c1
   (try simp only[Act.put,sA,List.set_cons_zero,List.set_cons_succ])
   refine wpAnyH_ready (rs:=[1,2]) (by kernel_rfl) (by simp) ?_
   refine AllReadyH.cons (o:=⟨_,_,_,_,_,_⟩) rfl (fun K hK => ?_) (AllReadyH.cons (o:=⟨_,_,_,_,_,_⟩) rfl (fun K hK => ?_) AllReadyH.nil)
   ·go_simp
    refine (DF _ ha hn).mono ?_;rintro e u1 ⟨t1,B1,m1,e1,rfl,j1,d1⟩;replace hS:=AA hS d1
    (replace ha:=ha.call d1);(replace hb:=hb.call d1);(replace pa:=pa.call d1);(replace pb:=pb.call d1)
    first | (with_reducible refine hK.out _ _ trivial (fun _ => ?_)) | (go_wp2_with fail;with_reducible refine hK.out _ _ trivial (fun _ => ?_))
    clear hK K
    (try simp only[Act.put,sA,List.set_cons_zero,List.set_cons_succ])
    refine wpAnyH_ready (rs:=[2]) (by kernel_rfl) (by simp) ?_
    refine AllReadyH.cons (o:=⟨_,_,_,_,_,_⟩) rfl (fun K hK => ?_) AllReadyH.nil
    have c0:=pb.cell0;have c1:=pb.cell1
    go_simp
    refine hK.out _ _ trivial (fun _ => ?_)
    clear hK K c0 c1
    (try simp only[Act.put,sA,List.set_cons_zero,List.set_cons_succ])
    refine wpAnyH_ready (rs:=[3]) (by kernel_rfl) (by simp) ?_
    refine AllReadyH.cons (o:=⟨_,_,_,_,_,_⟩) rfl (fun K hK => ?_) AllReadyH.nil
    go_simp
    refine (DF _ hb hn').mono ?_;rintro e u2 ⟨t2,B2,m2,e2,rfl,j2,d2⟩;replace hS:=AA hS d2
    (replace ha:=ha.call d2);(replace hb:=hb.call d2);(replace pa:=pa.call d2);(replace pb:=pb.call d2);(replace j1:=j1.call d2)
    first | (with_reducible refine hK.out _ _ trivial (fun _ => ?_)) | (go_wp2_with fail;with_reducible refine hK.out _ _ trivial (fun _ => ?_))
    clear hK K
    (try simp only[Act.put,sA,List.set_cons_zero,List.set_cons_succ])
    refine wpAnyH_ready (rs:=[4]) (by kernel_rfl) (by simp) ?_
    refine AllReadyH.cons (o:=⟨_,_,_,_,_,_⟩) rfl (fun K hK => ?_) AllReadyH.nil
    obtain ⟨q0,q1,f0,f1,k0,k1⟩:=pa.all (.bool t1) (.slice B1 m1 e1)
    go_simp
    refine hK.out _ _ trivial (fun _ => ?_)
    clear hK K q0 q1 f0 f1 k0 k1;replace hS:=AC hS (g:=w.heap.size) (by omega) (.bool t1) (.slice B1 m1 e1)
    replace j1:=j1.stored pa (.bool t1) (.slice B1 m1 e1)
    replace j2:=j2.stored pa (.bool t1) (.slice B1 m1 e1)
    replace pb:=pb.far (g':=w.heap.size) (by omega) (.bool t1) (.slice B1 m1 e1)
    replace pa:=pa.stored (s':=t1) (A':=B1) (n':=m1) (c':=e1)
    (try simp only[Act.put,sA,List.set_cons_zero,List.set_cons_succ])
    refine wpAnyH_ready (rs:=[5]) (by kernel_rfl) (by simp) ?_
    refine AllReadyH.cons (o:=⟨_,_,_,_,_,_⟩) rfl (fun K hK => ?_) AllReadyH.nil
    obtain ⟨q0,q1,f0,f1,k0,k1⟩:=pb.all (.bool t2) (.slice B2 m2 e2)
    go_simp
    refine hK.out _ _ trivial (fun _ => ?_)
    clear hK K q0 q1 f0 f1 k0 k1;replace hS:=AC hS (g:=w.heap.size+1) (by omega) (.bool t2) (.slice B2 m2 e2)
    replace j1:=j1.stored pb (.bool t2) (.slice B2 m2 e2)
    replace j2:=j2.stored pb (.bool t2) (.slice B2 m2 e2)
    replace pa:=pa.far (g':=w.heap.size+1) (by omega) (.bool t2) (.slice B2 m2 e2)
    replace pb:=pb.stored (s':=t2) (A':=B2) (n':=m2) (c':=e2)
    (try simp only[Act.put,sA,List.set_cons_zero,List.set_cons_succ])
    refine wpAnyH_done (by kernel_rfl) ?_ _
    go_wp2_with fail
    go_meet
    case rel=>exact ⟨_,_,_,_,_,_,_,_,pa,pb,j1,j2,hS⟩
   ·have c0:=pb.cell0
    have c1:=pb.cell1
    go_simp
    refine hK.out _ _ trivial (fun _ => ?_)
    clear hK K c0 c1
    (try simp only[Act.put,sA,List.set_cons_zero,List.set_cons_succ])
    refine wpAnyH_ready (rs:=[1]) (by kernel_rfl) (by simp) ?_
    refine AllReadyH.cons (o:=⟨_,_,_,_,_,_⟩) rfl (fun K hK => ?_) AllReadyH.nil
    go_simp
    refine (DF _ ha hn).mono ?_;rintro e u1 ⟨t1,B1,m1,e1,rfl,j1,d1⟩;replace hS:=AA hS d1
    (replace ha:=ha.call d1);(replace hb:=hb.call d1);(replace pa:=pa.call d1);(replace pb:=pb.call d1)
    first | (with_reducible refine hK.out _ _ trivial (fun _ => ?_)) | (go_wp2_with fail;with_reducible refine hK.out _ _ trivial (fun _ => ?_))
    clear hK K
    (try simp only[Act.put,sA,List.set_cons_zero,List.set_cons_succ])
    refine wpAnyH_ready (rs:=[3]) (by kernel_rfl) (by simp) ?_
    refine AllReadyH.cons (o:=⟨_,_,_,_,_,_⟩) rfl (fun K hK => ?_) AllReadyH.nil
    go_simp
    refine (DF _ hb hn').mono ?_;rintro e u2 ⟨t2,B2,m2,e2,rfl,j2,d2⟩;replace hS:=AA hS d2
    (replace ha:=ha.call d2);(replace hb:=hb.call d2);(replace pa:=pa.call d2);(replace pb:=pb.call d2);(replace j1:=j1.call d2)
    first | (with_reducible refine hK.out _ _ trivial (fun _ => ?_)) | (go_wp2_with fail;with_reducible refine hK.out _ _ trivial (fun _ => ?_))
    clear hK K
    (try simp only[Act.put,sA,List.set_cons_zero,List.set_cons_succ])
    refine wpAnyH_ready (rs:=[4]) (by kernel_rfl) (by simp) ?_
    refine AllReadyH.cons (o:=⟨_,_,_,_,_,_⟩) rfl (fun K hK => ?_) AllReadyH.nil
    obtain ⟨q0,q1,f0,f1,k0,k1⟩:=pa.all (.bool t1) (.slice B1 m1 e1)
    go_simp
    refine hK.out _ _ trivial (fun _ => ?_)
    clear hK K q0 q1 f0 f1 k0 k1;replace hS:=AC hS (g:=w.heap.size) (by omega) (.bool t1) (.slice B1 m1 e1)
    replace j1:=j1.stored pa (.bool t1) (.slice B1 m1 e1)
    replace j2:=j2.stored pa (.bool t1) (.slice B1 m1 e1)
    replace pb:=pb.far (g':=w.heap.size) (by omega) (.bool t1) (.slice B1 m1 e1)
    replace pa:=pa.stored (s':=t1) (A':=B1) (n':=m1) (c':=e1)
    (try simp only[Act.put,sA,List.set_cons_zero,List.set_cons_succ])
    refine wpAnyH_ready (rs:=[5]) (by kernel_rfl) (by simp) ?_
    refine AllReadyH.cons (o:=⟨_,_,_,_,_,_⟩) rfl (fun K hK => ?_) AllReadyH.nil
    obtain ⟨q0,q1,f0,f1,k0,k1⟩:=pb.all (.bool t2) (.slice B2 m2 e2)
    go_simp
    refine hK.out _ _ trivial (fun _ => ?_)
    clear hK K q0 q1 f0 f1 k0 k1;replace hS:=AC hS (g:=w.heap.size+1) (by omega) (.bool t2) (.slice B2 m2 e2)
    replace j1:=j1.stored pb (.bool t2) (.slice B2 m2 e2)
    replace j2:=j2.stored pb (.bool t2) (.slice B2 m2 e2)
    replace pa:=pa.far (g':=w.heap.size+1) (by omega) (.bool t2) (.slice B2 m2 e2)
    replace pb:=pb.stored (s':=t2) (A':=B2) (n':=m2) (c':=e2)
    (try simp only[Act.put,sA,List.set_cons_zero,List.set_cons_succ])
    refine wpAnyH_done (by kernel_rfl) ?_ _
    go_wp2_with fail
    go_meet
    case rel=>exact ⟨_,_,_,_,_,_,_,_,pa,pb,j1,j2,hS⟩
  ·have c0:=pb.cell0
   have c1:=pb.cell1
   go_simp
   refine hK.out _ _ trivial (fun _ => ?_)
   clear hK K c0 c1
   (try simp only[Act.put,sA,List.set_cons_zero,List.set_cons_succ])
   refine wpAnyH_ready (rs:=[0]) (by kernel_rfl) (by simp) ?_
   refine AllReadyH.cons (o:=⟨_,_,_,_,_,_⟩) rfl (fun K hK => ?_) AllReadyH.nil
   have c0:=pa.cell0;have c1:=pa.cell1
   go_simp
   refine hK.out _ _ trivial (fun _ => ?_)
   clear hK K c0 c1
   (try simp only[Act.put,sA,List.set_cons_zero,List.set_cons_succ])
   refine wpAnyH_ready (rs:=[1]) (by kernel_rfl) (by simp) ?_
   refine AllReadyH.cons (o:=⟨_,_,_,_,_,_⟩) rfl (fun K hK => ?_) AllReadyH.nil
   go_simp
   refine (DF _ ha hn).mono ?_;rintro e u1 ⟨t1,B1,m1,e1,rfl,j1,d1⟩;replace hS:=AA hS d1
   (replace ha:=ha.call d1);(replace hb:=hb.call d1);(replace pa:=pa.call d1);(replace pb:=pb.call d1)
   first | (with_reducible refine hK.out _ _ trivial (fun _ => ?_)) | (go_wp2_with fail;with_reducible refine hK.out _ _ trivial (fun _ => ?_))
   clear hK K
   (try simp only[Act.put,sA,List.set_cons_zero,List.set_cons_succ])
   refine wpAnyH_ready (rs:=[3]) (by kernel_rfl) (by simp) ?_
   refine AllReadyH.cons (o:=⟨_,_,_,_,_,_⟩) rfl (fun K hK => ?_) AllReadyH.nil
   go_simp
   refine (DF _ hb hn').mono ?_;rintro e u2 ⟨t2,B2,m2,e2,rfl,j2,d2⟩;replace hS:=AA hS d2
   (replace ha:=ha.call d2);(replace hb:=hb.call d2);(replace pa:=pa.call d2);(replace pb:=pb.call d2);(replace j1:=j1.call d2)
   first | (with_reducible refine hK.out _ _ trivial (fun _ => ?_)) | (go_wp2_with fail;with_reducible refine hK.out _ _ trivial (fun _ => ?_))
   clear hK K
   (try simp only[Act.put,sA,List.set_cons_zero,List.set_cons_succ])
   refine wpAnyH_ready (rs:=[4]) (by kernel_rfl) (by simp) ?_
   refine AllReadyH.cons (o:=⟨_,_,_,_,_,_⟩) rfl (fun K hK => ?_) AllReadyH.nil
   obtain ⟨q0,q1,f0,f1,k0,k1⟩:=pa.all (.bool t1) (.slice B1 m1 e1)
   go_simp
   refine hK.out _ _ trivial (fun _ => ?_)
   clear hK K q0 q1 f0 f1 k0 k1;replace hS:=AC hS (g:=w.heap.size) (by omega) (.bool t1) (.slice B1 m1 e1)
   replace j1:=j1.stored pa (.bool t1) (.slice B1 m1 e1)
   replace j2:=j2.stored pa (.bool t1) (.slice B1 m1 e1)
   replace pb:=pb.far (g':=w.heap.size) (by omega) (.bool t1) (.slice B1 m1 e1)
   replace pa:=pa.stored (s':=t1) (A':=B1) (n':=m1) (c':=e1)
   (try simp only[Act.put,sA,List.set_cons_zero,List.set_cons_succ])
   refine wpAnyH_ready (rs:=[5]) (by kernel_rfl) (by simp) ?_
   refine AllReadyH.cons (o:=⟨_,_,_,_,_,_⟩) rfl (fun K hK => ?_) AllReadyH.nil
   obtain ⟨q0,q1,f0,f1,k0,k1⟩:=pb.all (.bool t2) (.slice B2 m2 e2)
   go_simp
   refine hK.out _ _ trivial (fun _ => ?_)
   clear hK K q0 q1 f0 f1 k0 k1;replace hS:=AC hS (g:=w.heap.size+1) (by omega) (.bool t2) (.slice B2 m2 e2)
   replace j1:=j1.stored pb (.bool t2) (.slice B2 m2 e2)
   replace j2:=j2.stored pb (.bool t2) (.slice B2 m2 e2)
   replace pa:=pa.far (g':=w.heap.size+1) (by omega) (.bool t2) (.slice B2 m2 e2)
   replace pb:=pb.stored (s':=t2) (A':=B2) (n':=m2) (c':=e2)
   (try simp only[Act.put,sA,List.set_cons_zero,List.set_cons_succ])
   refine wpAnyH_done (by kernel_rfl) ?_ _
   go_wp2_with fail
   go_meet
   case rel=>exact ⟨_,_,_,_,_,_,_,_,pa,pb,j1,j2,hS⟩
 case rest =>
  obtain ⟨s1,A1,n1,c1,s2,A2,n2,c2,p1,p2,i1,i2,b⟩:=hcut;clear ha hb pa pb hS;obtain ⟨a0,a1,b0,b1⟩:=p1.cells p2;have HS:=Lib.hid i1.2.1;have HS':=Lib.hid i2.2.1;by_cases hst:s1=s2
  ·have hx:x < 0↔y < 0:=by
    have h1:=HS.out;have h2:=HS'.out;rw[hst,h2] at h1;have:=decide_eq_decide.1 h1;exact this.symm
   have HC:=Lib.hid (MP hx);have K1:=Lib.hid (CH wc i1.1 i2.1 (Ai _) (Ai _) i1.2.2.1 i1.2.2.2 i2.2.2.1 i2.2.2.2);have K2:=Lib.hid (CH wc i2.1 i1.1 (Ai _) (Ai _) i2.2.2.1 i2.2.2.2 i1.2.2.1 i1.2.2.2);rw[An,An] at K1 K2;subst hst;have hse:(s1 == s1)=true:=by simp
   cases s1
   ·have hx0 : ¬ x < 0:=by have:=HS.out;simpa using this
    rw[if_neg hx0] at HC;generalize Eg x y=z at *;generalize BT x.natAbs y.natAbs=z' at *;clear hx0 hx;go_wp2_with fail
    refine K1.out.mono ?_;rintro e w3 ⟨rfl,hq⟩;go_wp2
    go_ret
    exact ⟨by rw[HC.out];rfl,AA b (BR hq)⟩
   ·have hx0:x < 0:=by have:=HS.out;simpa using this
    rw[if_pos hx0] at HC;generalize Eg x y=z at *;generalize BT y.natAbs x.natAbs=z' at *;clear hx0 hx;go_wp2_with fail
    refine K2.out.mono ?_;rintro e w3 ⟨rfl,hq⟩;go_wp2
    go_ret
    exact ⟨by rw[HC.out];rfl,AA b (BR hq)⟩
  ·have hse:(s1 == s2)=false:=by simp;exact hst
   cases s1
   ·obtain rfl:s2=true:=by simpa using (Ne.symm hst)
    have hx0 : ¬ x < 0:=by have:=HS.out;simpa using this
    have hy0:y < 0:=by have:=HS'.out;simpa using this
    have HC:Hid (Eg x y=1):=Aav (by omega)
    generalize Eg x y=z at *;clear hx0 hy0 hse hst;go_wp2
    go_ret
    exact ⟨by rw[HC.out];rfl,b⟩
   ·obtain rfl:s2=false:=by simpa using (Ne.symm hst)
    have hx0:x < 0:=by have:=HS.out;simpa using this
    have hy0 : ¬ y < 0:=by have:=HS'.out;simpa using this
    have HC:Hid (Eg x y = -1):=Aau (by omega)
    generalize Eg x y=z at *;clear hx0 hy0 hse hst;go_wp2
    go_ret
    exact ⟨by rw[HC.out];rfl,b⟩
theorem VK (x:Int):Eg x 0=x.sign:=by
 unfold Eg;rcases Int.lt_trichotomy x 0 with h | h | h
 ·rw[if_pos h,Int.sign_eq_neg_one_of_neg h]
 ·rw[if_neg (by omega),if_pos h,h];rfl
 ·rw[if_neg (by omega),if_neg (by omega),Int.sign_eq_one_of_pos h]
set_option maxRecDepth 100000 in
theorem Qu {s:Bool}{A:Option Addr}{n c:Nat}{x:Int}(w:World)(ha:AInt w s A n c x)(hn:n≤1099511627776) :
  Calls Tryz.prog 94 #[.agg #[.bool s,.slice A n c]] w (Gk w (.int .i64 x.sign)):=by
 obtain ⟨W,hW⟩ : ∃ W,W=w.alloc (.cells #[.bool s,.slice A n c] 24):=⟨_,rfl⟩;have bW:Below w.heap.size w W:=by rw[hW];exact Ek w _
 have pa:Pr W w.heap.size s A n c:=by rw[hW];exact Pr.new w s A n c
 have a0:=pa.cell0;have a1:=pa.cell1;have HC:=Lib.hid (Mp W (ha.call bW) (CInt.zero W).any hn (by omega))
 rw[VK] at HC;go_enter Tryz.func94,Tryz.ntmps94
 go_wp2_with fail
 rw[←hW];clear hW;refine HC.out.mono ?_;rintro e w5 ⟨rfl,b5⟩;go_wp2
 go_ret
 exact ⟨rfl,AA bW b5⟩
theorem VO {x:Nat}(h:x≠0):Bl x=Bl (x / 2)+1:=by
 have:=FH x 1;by_cases h1:x=1
 ·subst h1;rfl
 ·exact this (by omega)
theorem YM {v m:Nat}(h0:v≠0)(hm:(Ae v).length=m):Bl v=32*(m - 1)+Bl ((Ae v).getD (m - 1) 0):=by
 have hl:=Ca v;have hg:=KH h0;rw[hm] at hl hg;have hm1:1≤m:=by
  rcases Nat.eq_zero_or_pos m with h | h
  ·rw[h] at hm;have:=(AQ v).1 hm;omega
  ·exact h
 have e1:4294967296 ^ (m - 1)=2 ^ (32*(m - 1)):=by rw[Nat.pow_mul]
 have hd:=FH v (32*(m - 1)) (by rw[←e1];exact hg)
 rw[hd,Nat.add_comm];congr 2;have hv:val (Ae v)=val ((Ae v).take (m - 1))+4294967296 ^ (m - 1)*(Ae v).getD (m - 1) 0:=by
  have:=Av (Ae v) (m - 1);rw[List.take_of_length_le (by omega)] at this
  exact this
 rw[An] at hv;have hlt:=BP ((Ai v).take (m - 1));rw[List.length_take,hm,Nat.min_eq_left (by omega)] at hlt
 rw[←e1];generalize 4294967296 ^ (m - 1)=P at *;generalize (Ae v).getD (m - 1) 0=top at *;generalize val ((Ae v).take (m - 1))=low at *;rw[hv,Nat.add_mul_div_left _ _ (by omega),Nat.div_eq_of_lt hlt,Nat.zero_add]
set_option maxRecDepth 100000 in
theorem Ho {A:Option Addr}{n c B:Nat}{xs:List Nat}(w:World)(hr:Rd .u32 w B A n xs)(hx:W32 xs)(hnc:n≤c)(hc:c≤9223372036854775807)(hn:n≤1099511627776) :
  Calls Tryz.prog 212 #[.slice A n c] w (Adi w (.int .i64 (Bl (val xs):Nat))):=by
 have HT:=Lib.hid (BX (c:=c) w hr hx hnc hc);go_enter Tryz.func212,Tryz.ntmps212
 go_wp2_with fail
 refine HT.out.mono ?_;rintro e w1 ⟨m,rfl,r1,hm,rfl⟩;clear HT hr hx;generalize val xs=v at *;have km:m=0↔v=0:=by rw[←r1.len];exact AQ v
 by_cases h0:m=0
 ·obtain rfl:=km.1 h0
  subst h0;go_wp2
  go_ret
  exact ⟨rfl,rfl⟩
 ·have hne:((m:Int) == 0)=false:=by simp;omega
  have HB:=Lib.hid (YM (fun h=>h0 (km.2 h)) r1.len)
  obtain ⟨b,off,rfl,_,hcell⟩:=r1.at_ (j:=m - 1) (by omega)
  have htl:=(Ai v).getD (m - 1);generalize (Ae v).getD (m - 1) 0=top at *;have i1:(0:Int)≤(m:Int) - 1:=by omega
  have i2:(m:Int) - 1 < (m:Int):=by omega
  have i3:((m:Int) - 1).toNat=m - 1:=by omega
  have hbt:Bl top≤32:=DM (k:=32) htl;clear km;go_wp2_with fail
  go_loop [3,4] (fun nv xv => ∃ y k:Nat,xv = .int .u32 y∧nv = .int .i64 ((32*(m - 1)+k:Nat):Int)∧y≤top∧k≤32∧Hid (Bl top=k+Bl y)) (fun _ xv=>(intOf xv).toNat)
  case atStart=>exact ⟨top,0,rfl,by congr 1;omega,Nat.le_refl _,by omega,by unfold Hid;omega⟩
  case round =>
   obtain ⟨y,k,rfl,rfl,hy,hk,HK⟩:=hrel;by_cases hy0:y=0
   ·subst hy0
    have HF:Hid (32*(m - 1)+k=Bl v):=by unfold Hid;have h1:=HB.out;have h2:=HK.out;rw[Ot] at h2;omega
    rw[HF.out];go_wp2
    go_ret
    exact ⟨rfl,rfl⟩
   ·have hy1:decide (0 < (y:Int))=true:=by simp;omega
    have hy2:0 < y:=by omega
    have HH:=Lib.hid (VO hy0);have hk1:k+1≤32:=by have h1:=HK.out;have h2:=HH.out;omega
    go_wp2
    go_round
    case rel=>exact ⟨y / 2,k+1,by go_num,by go_num,by omega,by omega,by unfold Hid;have h1:=HK.out;have h2:=HH.out;omega⟩
    case measure=>simp[intOf] <;> omega
theorem OJ {x z t:Nat}(hx:x < 4294967296)(ht:t < 32)(hz:z < 2 ^ t) : ∃ p lo hi:Nat,IntKind.u64.wrap ((x:Int)*2 ^ t)=(p:Int)∧p=x*2 ^ t∧p < 18446744073709551616∧lo=p % 4294967296∧hi=p / 4294967296∧bits .or .u32 (z:Int) (lo:Int)=((z+lo:Nat):Int)∧z+lo < 4294967296∧hi < 2 ^ t:=by
 have hp:2 ^ t≤2147483648:=Nat.pow_le_pow_right (by omega) (show t≤31 by omega)
 have hb:x*2 ^ t≤4294967295*2147483648:=Nat.mul_le_mul (by omega) hp
 have hz2:z < 4294967296:=by omega
 have hd:4294967296=2 ^ t*2 ^ (32 - t):=by rw[←Nat.pow_add,show t+(32 - t)=32 by omega]
 have hm:x*2 ^ t % 4294967296 % 2 ^ t=0:=by rw[hd,Nat.mod_mul_right_mod,Nat.mul_mod_left]
 have hlo:x*2 ^ t % 4294967296 < 4294967296:=Nat.mod_lt _ (by omega)
 have hj:z ||| (x*2 ^ t % 4294967296)=z+x*2 ^ t % 4294967296:=by rw[Nat.or_comm,nat_join t _ z hm hz];omega
 have hlt:z ||| (x*2 ^ t % 4294967296) < 4294967296:=Nat.or_lt_two_pow (n:=32) hz2 hlo;refine ⟨x*2 ^ t,_,_,?_,rfl,by omega,rfl,rfl,?_,by omega,?_⟩
 ·have e:((x*2 ^ t:Nat):Int)=(x:Int)*2 ^ t:=by simp
  rw[←e];exact IntWalk.u64_in _ ⟨Int.natCast_nonneg _,by omega⟩
 ·rw[u32_or_nat z _ hz2 hlo,hj]
 ·apply Nat.div_lt_of_lt_mul
  exact (Nat.mul_lt_mul_right (Nat.two_pow_pos t)).2 hx
theorem RT {zs:List Nat}{p0 lo hi z V P2 X:Nat}(hl:p0+1 < zs.length)(hz:zs.getD p0 0=z)(hz1:zs.getD (p0+1) 0=0)(hV:val zs=V*P2)(hP:4294967296 ^ p0*(lo+4294967296*hi)=X*P2) :
  val ((zs.set p0 (z+lo)).set (p0+1) hi)=(V+X)*P2:=by
 have e1:=DJ zs p0 (z+lo) (by omega)
 rw[hz] at e1;have e2:=DJ (zs.set p0 (z+lo)) (p0+1) hi (by rw[List.length_set];exact hl)
 rw[List.getD_eq_getElem?_getD,List.getElem?_set_ne (by omega),←List.getD_eq_getElem?_getD,hz1,Nat.mul_zero,Nat.add_zero] at e2
 rw[e2,Nat.pow_succ,Nat.add_mul,←hV,←hP];rw[Nat.mul_add] at e1;have e3:4294967296 ^ p0*(lo+4294967296*hi)=4294967296 ^ p0*lo+4294967296 ^ p0*4294967296*hi:=by rw[Nat.mul_add,Nat.mul_assoc]
 rw[e3];omega
set_option maxHeartbeats 1000000 in
set_option maxRecDepth 100000 in
theorem OP {A : Option Addr} {n c k : Nat} {xs : List Nat} (w : World) (hr : Rd .u32 w w.heap.size A n xs) (hx : W32 xs) (hn : n ≤ 274877906944) (hk : k ≤ 274877906944) :
  Calls Tryz.prog 213 #[.slice A n c,.int .i64 k] w (RetMagN w (val xs*2 ^ k)):=by
 have HL:=Lib.hid hr.len;have HX:=Lib.hid hx;clear hx;obtain ⟨k0,t,hk0,ht,hkt⟩ : ∃ k0 t:Nat,k / 32=k0∧k % 32=t∧k=32*k0+t:=⟨_,_,rfl,rfl,by omega⟩
 have q1:(k:Int).tdiv 32=(k0:Int):=by rw[Int.tdiv_eq_ediv_of_nonneg (by omega)];omega
 have q2:(k:Int) / 32=(k0:Int):=by omega
 have q3:(k:Int).tmod 32=(t:Int):=by rw[Int.tmod_eq_emod_of_nonneg (by omega)];omega
 have q4:(k:Int) % 32=(t:Int):=by omega
 have ht32:t < 32:=by omega
 have hk0b:k0≤274877906944:=by omega
 have HP:Hid (2 ^ k=4294967296 ^ k0*2 ^ t):=by unfold Hid;rw[hkt,Nat.pow_add,Nat.pow_mul]
 clear hk0 ht hkt hk;go_enter Tryz.func213,Tryz.ntmps213
 go_wp2_with (at_make;refine AV (kx := .i64) (ky := .i64) (n:=n+k0+1) (c:=n+k0+1) Tryz.elemU32 Tryz.underlying22 rfl rfl (congrArg (Value.int .i64) (by omega)) (congrArg (Value.int .i64) (by omega)) (Nat.le_refl _) (by omega) (by omega) ?_)
 intro w1 B1 b1 l1;generalize hg:w.heap.size=g at *;have HG:=Lib.hid hg;clear hg;have r1:=hr.below b1;clear hr l1;go_wp2_with fail
 go_loopw [6,7] (fun i _ wr => ∃ (j:Nat) (zs:List Nat),j≤n∧i = .int .i64 j∧Hid (zs.length=n+k0+1)∧Hid (W32 zs)∧Hid (val zs=val (xs.take j)*2 ^ k)∧Hid (zs.getD (k0+j) 0 < 2 ^ t)∧Hid (∀ i,k0+j < i→zs.getD i 0=0)∧Buf .u32 97 wr g zs∧Rd .u32 wr g A n xs∧Below g w wr) (fun i _ _=>n - (intOf i).toNat)
 case atStart=>exact ⟨0,_,by omega,rfl,by simp[Hid],W32.rep _,by rw[Jt,List.take_zero];simp[val,Hid],by rw[List.getD_eq_getElem?_getD];simp only[List.getElem?_replicate];split <;> exact Nat.two_pow_pos t,fun j _=>by rw[List.getD_eq_getElem?_getD];simp only[List.getElem?_replicate];split <;> rfl,B1,r1,b1⟩
 case round =>
  obtain ⟨j,zs,hj,rfl,hzl,hzw,HV,HZ,HZ0,hB,q,hb⟩:=hrel;clear B1 r1 b1;by_cases hlt:j < n
  ·obtain ⟨b1,o1,rfl,hb1,hc1⟩:=q.at_ hlt
   have hxl:=HX.out.getD j;have hc:wr.cell? ⟨g,j+k0,none⟩=some (.int .u32 ((zs.getD (k0+j) 0:Nat):Int)):=by
    have h:=hB.cell (i:=k0+j) (by rw[hzl.out];omega)
    rw[Nat.add_comm k0 j] at h ⊢;exact h
   have hc':wr.cell? ⟨g,j+k0+1,none⟩=some (.int .u32 ((zs.getD (k0+j+1) 0:Nat):Int)):=by
    have h:=hB.cell (i:=k0+j+1) (by rw[hzl.out];omega)
    rw[Nat.add_comm k0 j] at h ⊢;exact h
   have hf:=hB.frozen (j+k0);have hf':=hB.frozen (j+k0+1);obtain ⟨p,lo,hi,e1,ep,hpb,elo,ehi,e2,hlo,hhi⟩:=OJ hxl ht32 HZ.out;have HVS:=Lib.hid (Av xs j);have HN:Hid (val ((zs.set (k0+j) (zs.getD (k0+j) 0+lo)).set (k0+j+1) hi)=val (xs.take (j+1))*2 ^ k):=by
    unfold Hid;rw[HVS.out];refine RT (by rw[hzl.out];omega) rfl (HZ0.out _ (by omega)) HV.out ?_
    rw[HP.out,elo,ehi,Nat.mod_add_div,ep,Nat.pow_add];generalize 4294967296 ^ k0=a1;generalize 4294967296 ^ j=a2;generalize xs.getD j 0=a3;generalize 2 ^ t=a4;simp only[Nat.mul_comm,Nat.mul_left_comm]
   have HHI:=Lib.hid hhi;have helo:(p:Int) % 4294967296=(lo:Int):=by omega
   have hehi:(p:Int) / 4294967296=(hi:Int):=by omega
   have hib:hi < 4294967296:=Nat.lt_of_lt_of_le hhi (Nat.le_trans (Nat.pow_le_pow_right (by omega) (show t≤31 by omega)) (by decide))
   clear ep elo ehi hhi;generalize xs.getD j 0=x at *;generalize zs.getD (k0+j+1) 0=z1 at *;obtain ⟨z,hz⟩ : ∃ z,z=zs.getD (k0+j) 0:=⟨_,rfl⟩;rw[←hz] at hc e2 HN hlo HZ;clear hz;go_wp2
   go_roundw
   case rel =>
    refine ⟨j+1,(zs.set (k0+j) (z+lo)).set (k0+j+1) hi,by omega,by go_num,?_,(hzw.out.set _ hlo).set _ hib,HN,?_,?_,?_,(q.setCell (Nat.le_refl _) _).setCell (Nat.le_refl _) _,(hb.setCell (Nat.le_refl _) _).setCell (Nat.le_refl _) _⟩
    ·unfold Hid;rw[List.length_set,List.length_set];exact hzl.out
    ·unfold Hid
     rw[show k0+(j+1)=k0+j+1 by omega,List.getD_eq_getElem?_getD,List.getElem?_set_self (by rw[List.length_set,hzl.out];omega)]
     exact HHI.out
    ·intro i hi
     rw[List.getD_eq_getElem?_getD,List.getElem?_set_ne (by omega),List.getElem?_set_ne (by omega),←List.getD_eq_getElem?_getD]
     exact HZ0.out i (by omega)
    ·rw[Nat.add_comm k0 j]
     exact (hB.setZ (j+k0) (by omega)).setZ (j+k0+1) (by omega)
   case measure=>simp[intOf] <;> omega
  ·obtain rfl:j=n:=by omega
   have hv:val zs=val xs*2 ^ k:=by rw[HV.out,List.take_of_length_le (by rw[HL.out];omega)]
   have HT:=Lib.hid (Jw (w:=w) (c:=j+k0+1) hB hzl.out hzw.out hv (by rw[HG.out];exact hb) (Nat.le_refl _) (by omega) HG.out)
   clear hv;go_wp2_with fail
   refine HT.out.mono ?_;rintro e w3 ⟨⟨A1,n1,c1,rfl,h1⟩,rfl⟩;have H1:=Lib.hid h1;clear h1;clear HT;go_wp2
   go_ret
   exact ⟨A1,n1,c1,rfl,H1.out⟩
theorem V1 (x y:Nat)(hx:x < 4294967296)(hy:y < 4294967296):bits .or .u32 ((x / 2:Nat):Int) (((y*2147483648) % 4294967296:Nat):Int)=(((x+4294967296*y) / 2 ^ 1 % 4294967296:Nat):Int):=by
 have e1:(x+4294967296*y) / 2 ^ 1 % 4294967296=x / 2+y % 2*2147483648:=by omega
 have e2:y*2147483648 % 4294967296=y % 2*2147483648:=by omega
 rw[e1,e2,u32_or_nat (x / 2) (y % 2*2147483648) (by omega) (by omega),Nat.or_comm,nat_join 31 (y % 2*2147483648) (x / 2) (Nat.mul_mod_left (y % 2) 2147483648) (show x / 2 < 2147483648 by omega)]
 omega
theorem UB {xs ds:List Nat}{k:Nat}(s:Nat)(hk:k < xs.length)(h:ds=(Ez s xs).take k):ds++[(xs.getD k 0+4294967296*xs.getD (k+1) 0) / 2 ^ s % 4294967296]=(Ez s xs).take (k+1):=by
 rw[Cy _ k (by rw[Dw];exact hk),h,Ma s xs k hk]
set_option maxHeartbeats 1000000 in
set_option maxRecDepth 100000 in
theorem KZ {A:Option Addr}{n c:Nat}{xs:List Nat}(w:World)(hr:Rd .u32 w w.heap.size A n xs)(hx:W32 xs)(hn:n≤274877906944) :
  Calls Tryz.prog 215 #[.slice A n c] w (RetMagN w (val xs / 2)):=by
 have HL:=Lib.hid hr.len;have HX:=Lib.hid hx;clear hx;go_enter Tryz.func215,Tryz.ntmps215
 go_wp2_with (at_make;refine AV (kx := .i64) (ky := .i64) (n:=n) (c:=n) Tryz.elemU32 Tryz.underlying22 rfl rfl rfl rfl (Nat.le_refl _) (by omega) (by omega) ?_)
 intro w1 B1 b1 l1;rw[←D1] at B1;generalize hg:w.heap.size=g at *;have HG:=Lib.hid hg;clear hg;have r1:=hr.below b1;clear hr l1;go_wp2_with fail
 go_loopw [4] (fun i wr => ∃ (k:Nat) (ds:List Nat),k≤n∧i = .int .i64 k∧Hid (ds.length=k)∧Hid (ds=(Ez 1 xs).take k)∧Buf .u32 97 wr g (fill ds n)∧Rd .u32 wr g A n xs∧Below g w wr) (fun i _=>n - (intOf i).toNat)
 case atStart=>exact ⟨0,[],by omega,rfl,rfl,rfl,B1,r1,b1⟩
 case round =>
  obtain ⟨k,ds,hk,rfl,hdl,HD,hB,q,hb⟩:=hrel;clear B1 r1 b1;by_cases hlt:k < n
  ·obtain ⟨b1,o1,rfl,hb1,hc1⟩:=q.at_ hlt
   have hxl:=HX.out.getD k;have hyl:=HX.out.getD (k+1);have hc:wr.cell? ⟨g,k,none⟩=some (.int .u32 (((fill ds n).getD k 0:Nat):Int)):=hB.cell (by rw[CB (by rw[hdl.out];omega)];omega)
   have hf:=hB.frozen k;have HSET:=Lib.hid (fun d=>CA d hlt hdl.out)
   have HLEN:Hid (∀ d,(ds++[d]).length=k+1):=fun d=>by rw[List.length_append,hdl.out];rfl
   have HT:=Lib.hid (UB 1 (by rw[HL.out];exact hlt) HD.out)
   have HG1:=Lib.hid (Er (c:=c) (i:=k+1) wr.drew (q.drew) HX.out (by omega))
   obtain ⟨hv,hve⟩ : ∃ hv,hv=(xs.getD k 0+4294967296*xs.getD (k+1) 0) / 2 ^ 1 % 4294967296:=⟨_,rfl⟩;have hw:=V1 (xs.getD k 0) (xs.getD (k+1) 0) hxl hyl;rw[←hve] at hw HT;have hvl:hv < 4294967296:=by rw[hve];exact Nat.mod_lt _ (by omega)
   clear hve;generalize xs.getD k 0=x at *;generalize xs.getD (k+1) 0=y at *;generalize (fill ds n).getD k 0=old at *;have i1:(0:Int)≤(k:Int):=by omega
   have i2:(k:Int) < (n:Int):=by omega
   have iw:IntKind.i64.wrap ((k:Int)+1)=(k:Int)+1:=IntWalk.i64_in _ (by omega)
   rw[show ((k+1:Nat):Int)=(k:Int)+1 by omega] at HG1
   go_wp2_with fail
   go_still_tail 15,(by kernel_rfl)
   repeat still_step
   still_call (HG1.out.mono (fun e w'' h=>⟨h.1,h.2.symm⟩))
   repeat still_step
   refine wpStill_nil ?_
   change wpList _ _ _ _ _ wr.drew
   have HW:Hid (bits .or .u32 ((x:Int) / 2) ((y:Int)*2147483648 % 4294967296)=(hv:Int)):=by unfold Hid;simpa using hw
   clear iw hw;go_wp2_with fail
   go_roundw
   case rel =>
    refine ⟨k+1,ds++[hv],by omega,by go_num,HLEN.out _,HT,?_,(q.setCell (Nat.le_refl _) _).drew,(hb.setCell (Nat.le_refl _) _).drew⟩
    rw[←HSET.out];exact (hB.setZ k HW.out).drew
   case measure=>simp[intOf] <;> omega
  ·obtain rfl:k=n:=by omega
   rw[CV hdl.out] at hB;have hds:ds=Ez 1 xs:=by rw[HD.out,List.take_of_length_le (by rw[Dw,HL.out];omega)]
   have hv:val ds=val xs / 2:=by rw[hds,LZ 1 (by omega) xs HX.out]
   have hdw:W32 ds:=by rw[hds];exact LY 1 xs
   have HT:=Lib.hid (Jw (w:=w) (c:=k) hB hdl.out hdw hv (by rw[HG.out];exact hb) (Nat.le_refl _) (by omega) HG.out)
   clear hv hds hdw;go_wp2_with fail
   refine HT.out.mono ?_;rintro e w3 ⟨⟨A1,n1,c1,rfl,h1⟩,rfl⟩;have H1:=Lib.hid h1;clear h1;clear HT;go_wp2
   go_ret
   exact ⟨A1,n1,c1,rfl,H1.out⟩
def Off (g:Nat)(A:Option Addr)(n:Nat):Prop:=0 < n → ∃ b off,A=some ⟨b,off,none⟩∧b≠g
theorem Rd.setFar {k:IntKind}{w:World}{B n g i:Nat}{A:Option Addr}{xs:List Nat}(h:Rd k w B A n xs)(ho:Off g A n)(u:Value):Rd k (w.setCell ⟨g,i,none⟩ u) B A n xs:=by
 refine ⟨h.1,fun hn => ?_⟩
 obtain ⟨b,off,e,hb,hc⟩:=h.2 hn;obtain ⟨b',off',e',hne⟩:=ho hn;rw[e] at e';injection e' with e';injection e' with e1 e2;subst e1 e2;exact ⟨b,off,e,hb,fun j x hx=>(World.cell?_setCell_other _ _ _ _ (fun e=>hne (congrArg Addr.block e).symm)).trans (hc j x hx)⟩
theorem Rd.off {k:IntKind}{w:World}{g n:Nat}{A:Option Addr}{xs:List Nat}(h:Rd k w g A n xs):Off g A n:=fun hn=>by
 obtain ⟨b,off,e,hb,hc⟩:=h.2 hn;exact ⟨b,off,e,by omega⟩
theorem L4 {g n:Nat}{A:Option Addr}{w:World}(h:A=some ⟨w.heap.size,0,none⟩)(hg:g < w.heap.size):Off g A n:=fun _=>⟨_,_,h,by omega⟩
theorem VC {a b n:Nat}(hb:b≠0)(hn:Bl a=Bl b+n):a < b*2 ^ (n+1):=by
 have h1:=Gj a;have h2:=Ke hb;have h3:Bl b=Bl b - 1+1:=by
  rcases Nat.eq_zero_or_pos (Bl b) with h | h
  ·have:=Gj b;rw[h] at this;omega
  ·omega
 rw[hn,h3,show Bl b - 1+1+n=(Bl b - 1)+(n+1) by omega,Nat.pow_add] at h1
 exact Nat.lt_of_lt_of_le h1 (Nat.mul_le_mul_right _ h2)
theorem Aan {a b n:Nat}(hn:Bl a=Bl b+n):(Ae (b*2 ^ n)).length≤(Ae a).length:=by
 apply B6;have h1:=Gj b;have h2:b*2 ^ n < 2 ^ Bl a:=by rw[hn,Nat.pow_add];exact (Nat.mul_lt_mul_right (Nat.two_pow_pos n)).2 h1
 have h3:Bl a≤32*(Ae a).length:=by
  apply DM;have:=Ca a;rw[Nat.pow_mul];exact this
 have h4:(4294967296:Nat) ^ (Ae a).length=2 ^ (32*(Ae a).length):=by rw[Nat.pow_mul]
 rw[h4];exact Nat.lt_of_lt_of_le h2 (Nat.pow_le_pow_right (by omega) h3)
theorem Aam {a Q b i r D:Nat}(ha:a=Q*(b*2 ^ (i+1))+r)(hr:r < b*2 ^ (i+1))(hD:D=b*2 ^ i)(h:D≤r):a=(2*Q+1)*(b*2 ^ i)+(r - D)∧r - D < b*2 ^ i:=by
 have e:b*2 ^ (i+1)=2*(b*2 ^ i):=by rw[Nat.pow_succ,←Nat.mul_assoc,Nat.mul_comm]
 rw[e] at ha hr;subst hD;generalize b*2 ^ i=P at *;refine ⟨?_,by omega⟩
 rw[Nat.add_mul,Nat.one_mul,Nat.mul_comm 2 Q,Nat.mul_assoc];omega
theorem Acl {a Q b i r D:Nat}(ha:a=Q*(b*2 ^ (i+1))+r)(hD:D=b*2 ^ i)(h:r < D):a=(2*Q)*(b*2 ^ i)+r∧r < b*2 ^ i:=by
 have e:b*2 ^ (i+1)=2*(b*2 ^ i):=by rw[Nat.pow_succ,←Nat.mul_assoc,Nat.mul_comm]
 rw[e] at ha;subst hD;generalize b*2 ^ i=P at *;refine ⟨?_,h⟩;rw[Nat.mul_comm 2 Q,Nat.mul_assoc];exact ha
theorem U5 {qs:List Nat}(hw:W32 qs){k:Nat}:qs.getD k 0=val qs / 4294967296 ^ k % 4294967296:=by
 induction qs generalizing k with
 | nil=>simp[val]
 | cons q qs ih =>
  have hq:=hw.cons.1;cases k with
  | zero=>rw[Bq];simp;omega
  | succ k =>
   rw[List.getD_cons_succ,ih hw.cons.2,Bq,Nat.pow_succ,Nat.mul_comm (4294967296 ^ k) 4294967296,←Nat.div_div_eq_div_mul];congr 2;omega
theorem Aa8 {qs:List Nat}{Q i:Nat}(hw:W32 qs)(hv:val qs=Q*2 ^ (i+1))(hl:i / 32 < qs.length) :
  ∃ z,z=qs.getD (i / 32) 0∧bits .or .u32 (z:Int) ((2 ^ (i % 32):Nat):Int)=((z+2 ^ (i % 32):Nat):Int)∧z+2 ^ (i % 32) < 4294967296∧val (qs.set (i / 32) (z+2 ^ (i % 32)))=(2*Q+1)*2 ^ i:=by
 have ht:i % 32 < 32:=Nat.mod_lt _ (by omega)
 have hi:i=32*(i / 32)+i % 32:=by omega
 have hz:=U5 hw (k:=i / 32);have hB:(4294967296:Nat) ^ (i / 32)=2 ^ (32*(i / 32)):=by rw[Nat.pow_mul]
 have hp:2 ^ (i+1)=4294967296 ^ (i / 32)*2 ^ (i % 32+1):=by rw[hB,←Nat.pow_add];congr 1;omega
 have hpi:2 ^ i=4294967296 ^ (i / 32)*2 ^ (i % 32):=by rw[hB,←Nat.pow_add];congr 1
 have hP:0 < 4294967296 ^ (i / 32):=Nat.pow_pos (by omega)
 have hz2:qs.getD (i / 32) 0=Q*2 ^ (i % 32+1) % 4294967296:=by
  rw[hz,hv,hp,Nat.mul_left_comm,Nat.mul_div_cancel_left _ hP]
 have hd:4294967296=2 ^ (i % 32+1)*2 ^ (31 - i % 32):=by rw[←Nat.pow_add,show i % 32+1+(31 - i % 32)=32 by omega]
 have hm:qs.getD (i / 32) 0 % 2 ^ (i % 32+1)=0:=by
  rw[hz2]
  conv=>lhs;arg 1;rw[hd]
  rw[Nat.mod_mul_right_mod,Nat.mul_mod_left]
 have hzl:=hw.getD (i / 32);have hb:2 ^ (i % 32) < 2 ^ (i % 32+1):=Nat.pow_lt_pow_right (by omega) (by omega)
 have hb2:2 ^ (i % 32)≤2147483648:=Nat.pow_le_pow_right (by omega) (show i % 32≤31 by omega)
 have hj:qs.getD (i / 32) 0 ||| 2 ^ (i % 32)=qs.getD (i / 32) 0+2 ^ (i % 32):=nat_join (i % 32+1) _ _ hm hb;have hlt:qs.getD (i / 32) 0 ||| 2 ^ (i % 32) < 4294967296:=Nat.or_lt_two_pow (n:=32) hzl (Nat.lt_of_le_of_lt hb2 (by decide))
 refine ⟨_,rfl,?_,by omega,?_⟩
 ·rw[u32_or_nat _ _ hzl (Nat.lt_of_le_of_lt hb2 (by omega)),hj]
 ·have e:=DJ qs (i / 32) (qs.getD (i / 32) 0+2 ^ (i % 32)) hl
  rw[Nat.mul_add] at e;have e2:(2*Q+1)*2 ^ i=val qs+4294967296 ^ (i / 32)*2 ^ (i % 32):=by
   rw[hv,←hpi,Nat.pow_succ,Nat.add_mul,Nat.one_mul,Nat.mul_comm 2 Q,Nat.mul_assoc,Nat.mul_comm 2 (2 ^ i)]
  rw[e2];omega
theorem QY {b i:Nat}(h:0 < i):b*2 ^ i / 2=b*2 ^ (i - 1):=by
 obtain ⟨j,rfl⟩ : ∃ j,i=j+1:=⟨i - 1,by omega⟩
 rw[Nat.pow_succ,←Nat.mul_assoc,Nat.mul_div_cancel _ (by omega)]
 simp
theorem RG (P:Nat)(h:P≤2147483648):IntKind.u32.wrap (P:Int)=(P:Int):=by rw[IntKind.wrap_u32];omega
def Adk (w wr:World)(g N a b i:Nat)(rv dv:Value):Prop :=
 ∃ (r D Q:Nat) (qs:List Nat) (A A':Option Addr) (n n' c c':Nat),rv = .slice A n c∧dv = .slice A' n' c'∧Rd .u32 wr wr.heap.size A n (Ae r)∧Rd .u32 wr wr.heap.size A' n' (Ae D)∧Off g A n∧Off g A' n' ∧
  n≤c∧c≤9223372036854775807∧n'≤c'∧c'≤9223372036854775807∧r≤a∧(Ae D).length≤(Ae a).length∧a=Q*(b*2 ^ i)+r∧r < b*2 ^ i∧(0 < i→D=b*2 ^ (i - 1)) ∧
  Buf .u32 97 wr g qs∧qs.length=N∧W32 qs∧val qs=Q*2 ^ i∧Below w.heap.size w wr∧w.heap.size≤g
set_option maxHeartbeats 2000000 in
set_option maxRecDepth 100000 in
theorem Hv {A A' : Option Addr} {m n c c' a b : Nat} (w : World) (hr : Rd .u32 w w.heap.size A m (Ae a)) (hr' : Rd .u32 w w.heap.size A' n (Ae b)) (hmc : m ≤ c) (hc : c ≤ 9223372036854775807) (hnc : n ≤ c') (hc' : c' ≤ 9223372036854775807) (hm : m ≤ 1073741824) (hn : n ≤ 1073741824) (hb : b ≠ 0) :
  Calls Tryz.prog 186 #[.slice A m c,.slice A' n c'] w (Td w (a / b) (a % b)):=by
 have HT:=Lib.hid (BX (c:=c) w hr (Ai a) hmc hc);rw[An] at HT;have HLA:=Lib.hid hr.len;have HLB:=Lib.hid hr'.len;have HB1:=Lib.hid (fun W (h:Rd .u32 W W.heap.size A m (Ae a))=>Ho (c:=c) W h (Ai a) hmc hc (by omega))
 have HB2:=Lib.hid (fun W (h:Rd .u32 W W.heap.size A' n (Ae b))=>Ho (c:=c') W h (Ai b) hnc hc' (by omega))
 simp only[An] at HB1 HB2;have hba:Bl a≤34359738368:=by
  have:Bl a≤32*(Ae a).length:=DM (by have:=Ca a;rw[Nat.pow_mul];exact this)
  rw[HLA.out] at this;omega
 have hbb:Bl b≤34359738368:=by
  have:Bl b≤32*(Ae b).length:=DM (by have:=Ca b;rw[Nat.pow_mul];exact this)
  rw[HLB.out] at this;omega
 go_enter Tryz.func186,Tryz.ntmps186
 go_wp2_with fail
 refine HT.out.mono ?_;rintro e w1 ⟨m1,rfl,r1,hm1,rfl⟩;clear HT;have hl1:m1≤1073741824:=by omega
 have HL1:=Lib.hid r1.len;go_wp2_with (at_builtin;refine Aw Tryz.elemU32 Tryz.underlying22 (Own.nil (w0:=w) (Below.refl _ _)) r1 rfl rfl rfl rfl (by simp;omega) (by simp;omega) ?_;intro v2 w2 o2 _ _;rw[List.nil_append] at o2;obtain ⟨A2,n2,c2,rfl,r2,h2,h2'⟩:=o2.form';have b2:=o2.2)
 refine (HB1.out _ (hr.call b2)).mono ?_;rintro e w3 ⟨rfl,rfl⟩;go_wp2_with fail
 refine (HB2.out _ (hr'.call b2)).mono ?_;rintro e w3 ⟨rfl,rfl⟩;clear HB1 HB2 r1;have HBA:=Lib.hid (show Bl a=Bl a from rfl);by_cases hlt:Bl a < Bl b
 ·have hd:decide ((Bl a:Int) - (Bl b:Int) < 0)=true:=by simp;omega
  have hab:a < b:=by
   rcases Nat.lt_or_ge a b with h | h
   ·exact h
   ·have h1:=Gj a
    have h2:=Ke hb;have h3:2 ^ Bl a≤2 ^ (Bl b - 1):=Nat.pow_le_pow_right (by omega) (by omega)
    omega
  have HQ:Hid (a / b=0):=Nat.div_eq_of_lt hab;have HR:Hid (a % b=a):=Nat.mod_eq_of_lt hab;generalize Bl a=ba at *;generalize Bl b=bb at *;go_wp2
  go_ret2
  exact ⟨none,0,0,A2,n2,c2,rfl,by rw[HQ.out,AY];exact Rd.nil,by rw[HR.out];exact r2,by omega,by omega,h2,h2',b2⟩
 ·obtain ⟨k, hk⟩ : ∃ k, Bl a = Bl b + k := ⟨Bl a - Bl b, by omega⟩
  have HS:=Lib.hid (VC hb hk);have HDL:=Lib.hid (Aan hk);have hkk:(Bl a:Int) - (Bl b:Int)=(k:Int):=by omega
  have hkb:k≤34359738368:=by omega
  have hkd:decide ((k:Int) < 0)=false:=by simp
  generalize Bl a=ba at *;generalize Bl b=bb at *;have q1:(k:Int).tdiv 32=((k / 32:Nat):Int):=by rw[Int.tdiv_eq_ediv_of_nonneg (by omega)];omega
  have q2:(k:Int) / 32=((k / 32:Nat):Int):=by omega
  obtain ⟨N,hN⟩ : ∃ N,k / 32+1=N:=⟨_,rfl⟩;rw[show k / 32=N - 1 by omega] at q1 q2
  have hN1:1≤N:=by omega
  have hN2:N≤34359738369:=by omega
  have HN:=Lib.hid hN;clear hk hlt hN;go_wp2_with (at_make;refine AV (kx := .i64) (ky := .i64) (n:=N) (c:=N) Tryz.elemU32 Tryz.underlying22 rfl rfl (congrArg (Value.int .i64) (by omega)) (congrArg (Value.int .i64) (by omega)) (Nat.le_refl _) (by omega) (by omega) ?_)
  intro w4 B4 b4 l4;have HSH:=Lib.hid (OP (c:=c') (k:=k) w4 ((hr'.call b2).call b4) (Ai b) (by omega) (by omega))
  rw[An] at HSH;generalize hg:w2.heap.size=g at *;have hgw:w.heap.size≤g:=by rw[←hg];exact b2.size
  have r4:=r2.below b4;have of4:=r4.off;have b5:=b2.trans (b4.mono hgw);clear hg q1 q2 hkk;go_wp2_with fail
  refine HSH.out.mono ?_;rintro e w5 ⟨A5,n5,c5,rfl,r5,h5,h5',d5,e5⟩;have E5:=Lib.hid e5;clear e5 HSH;have B5:=B4.below d5 l4;have r6:=(r4.more (Nat.le_of_lt l4)).call d5;have b6:=AA b5 d5;clear B4 r4 b4 b5 r2 b2 o2;have HE:Hid (Adk w w5 g N a b (k+1) (.slice A2 n2 c2) (.slice A5 n5 c5)) :=
   ⟨a,b*2 ^ k,0,List.replicate N 0,A2,A5,n2,n5,c2,c5,rfl,rfl,r6,r5,of4,L4 E5.out l4,h2,h2',h5,h5',Nat.le_refl _,HDL.out,by simp,HS.out,fun _=>rfl,B5,by simp,W32.rep N,by rw[Jt];simp,b6,hgw⟩
  have hlw:g < w5.heap.size:=Nat.lt_of_lt_of_le l4 d5.size;clear r5 r6 B5 of4 E5 h2 h2' h5 h5' b6 d5 HS HDL hr hr' HL1;go_wp2_with fail
  go_loopg [6,9,10] (k+1) (fun i rv dv iv wx=>iv = .int .i64 ((i:Int) - 1)∧i≤k+1∧Hid (Adk w wx g N a b i rv dv))
  case atStart=>exact ⟨by go_num,Nat.le_refl _,HE⟩
  case round =>
   clear HE hlw;obtain ⟨i,rfl⟩ : ∃ i,i=gk:=⟨_,rfl⟩;obtain ⟨rfl,hik,HD⟩:=hrel;obtain ⟨r,D,Q,qs,A3,A4,n3,n4,c3,c4,rfl,rfl,r3,r4,of3,of4,x1,x2,x3,x4,hra,hDl,hA,hrb,hDi,hB,hql,hqw,hqv,hbw,hgw'⟩:=HD.out;have HQL:=Lib.hid hql;have HQV:=Lib.hid hqv;have HA:=Lib.hid hA;have HDI:=Lib.hid hDi;have HRB:=Lib.hid hrb;have hn3:n3≤1073741824:=by have h:=AW hra;rw[r3.len,HLA.out] at h;omega
   have hn4:n4≤1073741824:=by have h:=hDl;rw[r4.len,HLA.out] at h;omega
   clear HD hql hqv hA hDi hrb hgw';by_cases hi0:i=0
   ·subst hi0
    have hrd:=hB.rd;rw[HQL.out] at hrd;have hqe:val qs=a / b∧r=a % b:=by
     have h1:=HA.out;have h2:=HRB.out;rw[Nat.pow_zero,Nat.mul_one] at h1 h2;have h3:=HQV.out;rw[Nat.pow_zero,Nat.mul_one] at h3;rw[h1,h3,Nat.mul_comm Q b];exact ⟨by rw[Nat.mul_add_div (by omega),Nat.div_eq_of_lt h2,Nat.add_zero],by rw[Nat.mul_add_mod,Nat.mod_eq_of_lt h2]⟩
    have HT:=Lib.hid (BX (c:=N) wr hrd hqw (Nat.le_refl _) (by omega))
    rw[hqe.1] at HT;have HRE:=Lib.hid hqe.2;clear hqe hrd;go_wp2_with fail
    refine HT.out.mono ?_;rintro e w6 ⟨m6,rfl,r6,hm6,rfl⟩;go_wp2
    go_ret2
    exact ⟨_,m6,N,A3,n3,c3,rfl,r6,by rw[←HRE.out];exact r3,by omega,by omega,x1,x2,hbw⟩
   ·obtain ⟨i,rfl⟩ : ∃ j,i=j+1:=⟨i - 1,by omega⟩
    have hDe:D=b*2 ^ i:=HDI.out (by omega)
    have HDE:=Lib.hid hDe;have e1:(((i+1:Nat):Int) - 1)=(i:Int):=by omega
    rw[e1];clear e1 hi0 hDe HDI;have HC:=Lib.hid (CH wr r3 r4 (Ai _) (Ai _) x1 x2 x3 x4);rw[An,An] at HC;by_cases hDr:D≤r
    ·have hge:0≤BT r D:=Hc hDr
     obtain ⟨y1,y2⟩:=Aam HA.out HRB.out HDE.out hDr;have Y1:=Lib.hid y1;have Y2:=Lib.hid y2;have hk0:i / 32 < N:=by rw[←HN.out];have:i / 32≤k / 32:=Nat.div_le_div_right (by omega);omega
     obtain ⟨z,hz,ez,hzl,hzv⟩:=Aa8 (i:=i) hqw HQV.out (by rw[HQL.out];exact hk0)
     have hz':qs.getD (i / 32) 0=z:=hz.symm;have ht:i % 32 < 32:=Nat.mod_lt _ (by omega)
     have hp2:2 ^ (i % 32)≤2147483648:=Nat.pow_le_pow_right (by omega) (show i % 32≤31 by omega)
     have HZV:=Lib.hid hzv;have HLS:Hid ((Ae (r - D)).length≤(Ae a).length):=AW (by omega)
     have hnn:n4≤n3:=by rw[←r3.len,←r4.len];exact AW hDr
     have HSB:=Lib.hid (fun W h h'=>Hk (c:=c3) (c':=c4) (A:=A3) (A':=A4) (n:=n3) (n':=n4) (xs:=Ae r) (ys:=Ae D) W h h' (Ai r) (Ai D) (by omega) hnn (by rw[An,An];exact hDr))
     simp only[An] at HSB;have q1:(i:Int).tdiv 32=((i / 32:Nat):Int):=by rw[Int.tdiv_eq_ediv_of_nonneg (by omega)];omega
     have q2:(i:Int) / 32=((i / 32:Nat):Int):=by omega
     have q3:(i:Int).tmod 32=((i % 32:Nat):Int):=by rw[Int.tmod_eq_emod_of_nonneg (by omega)];omega
     have q4:(i:Int) % 32=((i % 32:Nat):Int):=by omega
     have ep:IntKind.u32.wrap ((2:Int) ^ (i % 32))=((2 ^ (i % 32):Nat):Int):=by
      rw[show ((2:Int) ^ (i % 32))=((2 ^ (i % 32):Nat):Int) by simp];exact RG _ hp2
     clear y1 y2 hz hzv;generalize BT r D=cp at *;have hcd:decide (0≤cp)=true:=by simp;omega
     have hcd':decide (cp≥0)=true:=by simp;omega
     clear hge;generalize i / 32=k0 at *;generalize 2 ^ (i % 32)=P2 at *;generalize i % 32=t at *;go_wp2_with fail
     refine HC.out.mono ?_;rintro e w6 ⟨rfl,hq6⟩;have d6:=BR hq6;clear hq6 HC;go_wp2_with fail
     refine (HSB.out _ (r3.call d6) (r4.call d6)).mono ?_;rintro e w7 ⟨A7,n7,c7,rfl,r7,x7,x7',d7,e7⟩;have E7:=Lib.hid e7;clear e7 HSB;have hB7:=(hB.call d6).call d7;have hl7:=hB7.cell (i:=k0) (by rw[HQL.out];exact hk0)
     have hf7:=hB7.frozen k0;rw[hz'] at hl7;have HZ':=Lib.hid hz';have j1:(0:Int)≤(k0:Int):=by omega
     have j2:(k0:Int) < (N:Int):=by omega
     clear hz';have of7:Off g A7 n7:=L4 E7.out (Nat.lt_of_lt_of_le hB.lt d6.size);have hB8:=hB7.setZ k0 (show ((z:Int)+(P2:Int))=((z+P2:Nat):Int) by omega)
     have r8:=(r7.setFar (i:=k0) of7 (.int .u32 ((z:Int)+(P2:Int)))).more (B':=(w7.setCell ⟨g,k0,none⟩ (.int .u32 ((z:Int)+(P2:Int)))).heap.size) (by rw[Da];exact Nat.le_refl _)
     have r9:=(((r4.call d6).call d7).setFar (i:=k0) of4 (.int .u32 ((z:Int)+(P2:Int)))).more (B':=(w7.setCell ⟨g,k0,none⟩ (.int .u32 ((z:Int)+(P2:Int)))).heap.size) (by rw[Da];exact Nat.le_refl _)
     have b8:=(AA (AA hbw d6) d7).setCell (p:=⟨g,k0,none⟩) hgw (.int .u32 ((z:Int)+(P2:Int)));have hg8:g < (w7.setCell ⟨g,k0,none⟩ (.int .u32 ((z:Int)+(P2:Int)))).heap.size:=hB8.lt;have HH:=Lib.hid (KZ (c:=c4) _ r9 (Ai D) (by omega))
     rw[An] at HH;go_wp2_with fail
     refine HH.out.mono ?_;rintro e w9 ⟨A9,n9,c9,rfl,r9',x9,x9',d9,e9⟩;have E9:=Lib.hid e9;clear e9 HH;go_wp2
     go_roundg i
     case rel =>
      refine ⟨by go_num,by omega,?_⟩
      refine ⟨r - D,D / 2,2*Q+1,qs.set k0 (z+P2),A7,A9,n7,n9,c7,c9,rfl,rfl,r8.call d9,r9',of7,L4 E9.out hg8,x7,x7',x9,x9',by omega,?_,Y1.out,Y2.out,?_,hB8.call d9,by rw[List.length_set];exact HQL.out,hqw.set _ hzl,HZV.out,AA b8 d9,hgw⟩
      ·exact Nat.le_trans (AW (Nat.div_le_self _ _)) hDl
      ·intro h;rw[HDE.out];exact QY h
     case measure=>omega
    ·have hge:BT r D = -1:=Ha (by omega)
     rw[hge] at HC;obtain ⟨y1,y2⟩:=Acl HA.out HDE.out (by omega)
     have Y1:=Lib.hid y1;have Y2:=Lib.hid y2;clear y1 y2 hge;go_wp2_with fail
     refine HC.out.mono ?_;rintro e w6 ⟨rfl,hq6⟩;have d6:=BR hq6;clear hq6 HC;have HH:=Lib.hid (KZ (c:=c4) w6 (r4.call d6) (Ai D) (by omega))
     rw[An] at HH;go_wp2_with fail
     refine HH.out.mono ?_;rintro e w7 ⟨A7,n7,c7,rfl,r7,x7,x7',d7,e7⟩;have E7:=Lib.hid e7;clear e7 HH;go_wp2
     go_roundg i
     case rel =>
      refine ⟨by go_num,by omega,?_⟩
      refine ⟨r,D / 2,2*Q,qs,A3,A7,n3,n7,c3,c7,rfl,rfl,(r3.call d6).call d7,r7,of3,L4 E7.out (Nat.lt_of_lt_of_le hB.lt d6.size),x1,x2,x7,x7',hra,?_,Y1.out,Y2.out,?_,(hB.call d6).call d7,HQL.out,hqw,?_,AA (AA hbw d6) d7,hgw⟩
      ·exact Nat.le_trans (AW (Nat.div_le_self _ _)) hDl
      ·intro h;rw[HDE.out];exact QY h
      ·rw[HQV.out,Nat.pow_succ,Nat.mul_comm 2 Q,Nat.mul_assoc,Nat.mul_comm 2 (2 ^ i)]
     case measure=>omega
theorem QK (neg:Bool)(W:World)(k:Nat)(hk:k < 18446744073709551616) :
  Calls Tryz.prog 153 #[.bool neg,.slice (some ⟨W.heap.size,0,none⟩) 2 2] (W.alloc (.cells #[.int .u32 ((k % 4294967296:Nat):Int),.int .u32 ((k / 4294967296:Nat):Int)] 97)) (RetInt (W.alloc (.cells #[.int .u32 ((k % 4294967296:Nat):Int),.int .u32 ((k / 4294967296:Nat):Int)] 97)) (sgn neg k)):=by
 have hr:=Rd.block .u32 W 97 (0,0) [k % 4294967296,k / 4294967296] #[.int .u32 ((k % 4294967296:Nat):Int),.int .u32 ((k / 4294967296:Nat):Int)] (by simp[cellsOf])
 have h:=JF (c:=2) neg _ hr (by simp) (W32.mk (Nat.mod_lt _ (by omega)) (W32.mk (by omega) W32.nil)) (by simp) (by omega) (by simp)
 rw[show val [k % 4294967296,k / 4294967296]=k by simp[val];omega] at h
 exact h
set_option maxRecDepth 100000 in
theorem Kx (k:Int)(w:World)(h1 : -9223372036854775808≤k)(h2:k≤9223372036854775807):Calls Tryz.prog 113 #[.int .i64 k] w (RetInt w k):=by
 obtain ⟨W,hW⟩ : ∃ W,W=w.alloc (.cells #[.bool false,.slice none 0 0] 24):=⟨_,rfl⟩;have hsz:W.heap.size=w.heap.size+1:=by rw[hW];simp
 have bW:Below w.heap.size w W:=by rw[hW];exact Ek w _
 have pr:Pr W w.heap.size false none 0 0:=by rw[hW];exact Pr.new w false none 0 0
 obtain ⟨a,ha⟩ : ∃ a,a=k.natAbs:=⟨_,rfl⟩;have hab:a < 18446744073709551616:=by omega
 by_cases h0:k < 0
 ·have hd:decide (k < 0)=true:=by simp;omega
  have e1:IntKind.u64.wrap (-IntKind.u64.wrap k)=(a:Int):=by rw[IntKind.wrap_u64];(try rw[IntKind.wrap_u64]);omega
  have HM:=Lib.hid (QK true W a hab);rw[show sgn true a=k by unfold sgn;simp;omega,hsz] at HM
  have e2:(a:Int) % 4294967296=((a % 4294967296:Nat):Int):=by omega
  have e3:(a:Int) / 4294967296=((a / 4294967296:Nat):Int):=by omega
  have hal:a / 4294967296 < 4294967296:=by omega
  have ham:a % 4294967296 < 4294967296:=by omega
  clear ha;generalize a % 4294967296=lo at *;generalize a / 4294967296=hi at *;go_enter Tryz.func113,Tryz.ntmps113
  go_wp2_with fail
  rw[←hW];clear hW;refine HM.out.mono ?_;rintro e w2 ⟨neg,A2,n2,c2,rfl,ci,d2⟩;have d3:=AA (Ek W (.cells #[.int .u32 (lo:Int),.int .u32 (hi:Int)] 97)) d2;have p2:=pr.call d3;obtain ⟨q0,q1,f0,f1,k0,k1⟩:=p2.all (.bool neg) (.slice A2 n2 c2);go_wp2
  ((try simp only[Exit.inBlock,Exit.then]);refine bodyPost_ret (by simp[results,Tryz.results113,go_sem,k0,k1];try rfl) rfl ?_)
  exact RetInt.stored ci p2 (AA bW d3) (by omega)
 ·have hd:decide (k < 0)=false:=by simp;omega
  have e1:IntKind.u64.wrap k=(a:Int):=by rw[IntKind.wrap_u64];omega
  have HM:=Lib.hid (QK false W a hab);rw[show sgn false a=k by unfold sgn;simp;omega,hsz] at HM
  have e2:(a:Int) % 4294967296=((a % 4294967296:Nat):Int):=by omega
  have e3:(a:Int) / 4294967296=((a / 4294967296:Nat):Int):=by omega
  have hal:a / 4294967296 < 4294967296:=by omega
  have ham:a % 4294967296 < 4294967296:=by omega
  clear ha;generalize a % 4294967296=lo at *;generalize a / 4294967296=hi at *;go_enter Tryz.func113,Tryz.ntmps113
  go_wp2_with fail
  rw[←hW];clear hW;refine HM.out.mono ?_;rintro e w2 ⟨neg,A2,n2,c2,rfl,ci,d2⟩;have d3:=AA (Ek W (.cells #[.int .u32 (lo:Int),.int .u32 (hi:Int)] 97)) d2;have p2:=pr.call d3;obtain ⟨q0,q1,f0,f1,k0,k1⟩:=p2.all (.bool neg) (.slice A2 n2 c2);go_wp2
  ((try simp only[Exit.inBlock,Exit.then]);refine bodyPost_ret (by simp[results,Tryz.results113,go_sem,k0,k1];try rfl) rfl ?_)
  exact RetInt.stored ci p2 (AA bW d3) (by omega)
theorem PX {s t:Bool}{a b:Nat}(hb:0 < b)(h:0 < a % b)(hst:s≠t) :
  sgn (!(s == t)) (a / b) - 1=(sgn s a).fdiv (sgn t b)∧sgn s (a % b)+sgn t b=(sgn s a).fmod (sgn t b):=by
 obtain ⟨h1,h2⟩:=Gb (s:=s) (t:=t) (a:=a) hb;rw[if_pos ⟨h,hst⟩] at h1 h2;have h3:=Nat.mod_lt a hb;rw[h1,h2];cases s <;> cases t <;> simp at hst <;> simp[sgn] <;> omega
theorem OA {s t:Bool}{a b:Nat}(hb:0 < b)(h : ¬ (0 < a % b∧s≠t)) :
  sgn (!(s == t)) (a / b)=(sgn s a).fdiv (sgn t b)∧sgn s (a % b)=(sgn s a).fmod (sgn t b):=by
 obtain ⟨h1,h2⟩:=Gb (s:=s) (t:=t) (a:=a) hb;rw[if_neg h] at h1 h2;rw[h1,h2];refine ⟨rfl,?_⟩;by_cases hst:s=t
 ·rw[hst]
 ·have:a % b=0:=by
   rcases Nat.eq_zero_or_pos (a % b) with h0 | h0
   ·exact h0
   ·exact absurd ⟨h0,hst⟩ h
  rw[this,Gv,Gv]
theorem AInt.refTrim {w:World}{neg:Bool}{A:Option Addr}{n c:Nat}{z:Int}(h:AInt w neg A n c z) :
  Calls Tryz.prog 136 #[.slice A n c] w (RE w w.heap.size n c A z.natAbs):=by
 obtain ⟨ds,h1,h2,h3,h4,rfl⟩:=h;rw[Bw];exact BX w h1 h2 h3 h4
set_option maxHeartbeats 2000000 in
set_option maxRecDepth 100000 in
theorem Sd {s t : Bool} {A A' : Option Addr} {n n' c c' : Nat} {x y : Int} (w : World) (ha : AInt w s A n c x) (hb : AInt w t A' n' c' y) (hn : n ≤ 1073741824) (hn' : n' ≤ 1073741824) :
  Calls Tryz.prog 148 #[.agg #[.bool s,.slice A n c],.agg #[.bool t,.slice A' n' c']] w (RetInt w (Nat.gcd x.natAbs y.natAbs:Nat)):=by
 obtain ⟨W,hW,hS,pa,pb,pr⟩:=MT w s t A A' n n' c c';replace ha:=ha.call hS
 replace hb:=hb.call hS
 obtain ⟨G,hG⟩ : ∃ G,Nat.gcd x.natAbs y.natAbs=G:=⟨_,rfl⟩;rw[hG];have HG:=Lib.hid hG;clear hG;go_enter Tryz.func148,Tryz.ntmps148
 go_wp2_with fail
 rw[←hW];clear hW
 go_upto_region 1 with (fail)
 go_cut [5,6] (fun v v' wz => ∃ A1 n1 c1 A2 n2 c2 p q,v = .slice A1 n1 c1∧v' = .slice A2 n2 c2∧Hid (Rd .u32 wz wz.heap.size A1 n1 (Ae p)∧Rd .u32 wz wz.heap.size A2 n2 (Ae q)∧n1≤c1∧c1≤9223372036854775807∧n2≤c2∧c2≤9223372036854775807∧n1≤1073741824∧n2≤1073741824∧Nat.gcd p q=G∧Pr wz (w.heap.size+1+1) false none 0 0∧Below w.heap.size w wz))
 case first =>
  have d0:=YO W
  (replace ha:=ha.call d0);(replace hb:=hb.call d0);(replace pr:=pr.call d0);(replace pa:=pa.call d0);(replace pb:=pb.call d0)
  replace hS:=AA hS d0
  clear d0;refine wp_region_held_drew (S:=fun w'=>Below w.heap.size w w'∧Pr w' (w.heap.size) s A n c∧Pr w' (w.heap.size+1) t A' n' c') (by kernel_rfl) ⟨hS,pa,pb⟩ (fun _ => ?_)
  generalize W.drew=u0 at *;refine wpAnyH_take (i:=0) (oi:=⟨_,_,_,_,_,_⟩) (v := ?_) rfl (by kernel_rfl) (by kernel_rfl) (by kernel_rfl) (fun _ _ _ h=>h) (Or.inl ⟨by rfl,?_⟩) ⟨hS,pa,pb⟩ ?_
  rotate_left
  ·intro w' hS';(first | (go_simp;done) | (go_simp;with_reducible rfl) | with_reducible rfl)
  (try simp only[Act.put,sA,List.set_cons_zero,List.set_cons_succ])
  refine wpAnyH_take (i:=1) (oi:=⟨_,_,_,_,_,_⟩) (v := ?_) rfl (by kernel_rfl) (by kernel_rfl) (by kernel_rfl) (fun _ _ _ h=>h) (Or.inl ⟨by rfl,?_⟩) ⟨hS,pa,pb⟩ ?_
  rotate_left
  ·intro w' hS';obtain ⟨_,q_pa,q_pb⟩:=hS';have c0:=q_pa.cell0;have c1:=q_pa.cell1;(first | (go_simp;done) | (go_simp;with_reducible rfl) | with_reducible rfl)
  (try simp only[Act.put,sA,List.set_cons_zero,List.set_cons_succ])
  refine wpAnyH_take (i:=4) (oi:=⟨_,_,_,_,_,_⟩) (v := ?_) rfl (by kernel_rfl) (by kernel_rfl) (by kernel_rfl) (fun _ _ _ h=>h) (Or.inl ⟨by rfl,?_⟩) ⟨hS,pa,pb⟩ ?_
  rotate_left
  ·intro w' hS';(first | (go_simp;done) | (go_simp;with_reducible rfl) | with_reducible rfl)
  (try simp only[Act.put,sA,List.set_cons_zero,List.set_cons_succ])
  refine wpAnyH_take (i:=5) (oi:=⟨_,_,_,_,_,_⟩) (v := ?_) rfl (by kernel_rfl) (by kernel_rfl) (by kernel_rfl) (fun _ _ _ h=>h) (Or.inl ⟨by rfl,?_⟩) ⟨hS,pa,pb⟩ ?_
  rotate_left
  ·intro w' hS';obtain ⟨_,q_pa,q_pb⟩:=hS';have c0:=q_pb.cell0;have c1:=q_pb.cell1;(first | (go_simp;done) | (go_simp;with_reducible rfl) | with_reducible rfl)
  (try simp only[Act.put,sA,List.set_cons_zero,List.set_cons_succ])
  refine wpAnyH_ready (rs:=[2]) (by kernel_rfl) (by simp) ?_
  refine AllReadyH.cons (o:=⟨_,_,_,_,_,_⟩) rfl (fun K hK => ?_) AllReadyH.nil
  go_simp
  refine (ha.refTrim).mono ?_;rintro e u1 ⟨m1,rfl,r1,y1,rfl⟩;first | (with_reducible refine hK.out _ _ ⟨hS,pa,pb⟩ (fun _ => ?_)) | (go_wp2_with fail;with_reducible refine hK.out _ _ ⟨hS,pa,pb⟩ (fun _ => ?_))
  clear hK K
  (try simp only[Act.put,sA,List.set_cons_zero,List.set_cons_succ])
  refine wpAnyH_ready (rs:=[3]) (by kernel_rfl) (by simp) ?_
  refine AllReadyH.cons (o:=⟨_,_,_,_,_,_⟩) rfl (fun K hK => ?_) AllReadyH.nil
  rw[if_pos (by rfl)]
  refine DI Tryz.elemU32 Tryz.underlying22 (Own.nil (Below.refl _ _)) r1 (by rfl) (by rfl) (by rfl) (by simp;omega) (by simp;omega) ?_
  intro va ua5 oa _ _;rw[List.nil_append] at oa;obtain ⟨A5,n5,c5,rfl,r5,h5,h5'⟩:=oa.form';have da:=oa.below;replace hS:=AA hS da
  (replace ha:=ha.call da);(replace hb:=hb.call da);(replace pr:=pr.call da);(replace pa:=pa.call da);(replace pb:=pb.call da);(replace r1:=r1.call da)
  clear oa da;refine hK.out _ _ ⟨hS,pa,pb⟩ (fun _ => ?_)
  clear hK K
  (try simp only[Act.put,sA,List.set_cons_zero,List.set_cons_succ])
  refine wpAnyH_ready (rs:=[6]) (by kernel_rfl) (by simp) ?_
  refine AllReadyH.cons (o:=⟨_,_,_,_,_,_⟩) rfl (fun K hK => ?_) AllReadyH.nil
  go_simp
  refine (hb.refTrim).mono ?_;rintro e u2 ⟨m2,rfl,r2,y2,rfl⟩;first | (with_reducible refine hK.out _ _ ⟨hS,pa,pb⟩ (fun _ => ?_)) | (go_wp2_with fail;with_reducible refine hK.out _ _ ⟨hS,pa,pb⟩ (fun _ => ?_))
  clear hK K
  (try simp only[Act.put,sA,List.set_cons_zero,List.set_cons_succ])
  refine wpAnyH_ready (rs:=[7]) (by kernel_rfl) (by simp) ?_
  refine AllReadyH.cons (o:=⟨_,_,_,_,_,_⟩) rfl (fun K hK => ?_) AllReadyH.nil
  rw[if_pos (by rfl)]
  refine DI Tryz.elemU32 Tryz.underlying22 (Own.nil (Below.refl _ _)) r2 (by rfl) (by rfl) (by rfl) (by simp;omega) (by simp;omega) ?_
  intro va ua6 oa _ _;rw[List.nil_append] at oa;obtain ⟨A6,n6,c6,rfl,r6,h6,h6'⟩:=oa.form';have da:=oa.below;replace hS:=AA hS da
  (replace ha:=ha.call da);(replace hb:=hb.call da);(replace pr:=pr.call da);(replace pa:=pa.call da);(replace pb:=pb.call da);(replace r1:=r1.call da);(replace r5:=r5.call da);(replace r2:=r2.call da)
  clear oa da;refine hK.out _ _ ⟨hS,pa,pb⟩ (fun _ => ?_)
  clear hK K
  (try simp only[Act.put,sA,List.set_cons_zero,List.set_cons_succ])
  refine wpAnyH_take (i:=8) (oi:=⟨_,_,_,_,_,_⟩) (v := ?_) rfl (by kernel_rfl) (by kernel_rfl) (by kernel_rfl) (fun _ _ _ h=>h) (Or.inl ⟨by rfl,?_⟩) ⟨hS,pa,pb⟩ ?_
  rotate_left
  ·intro w' hS';(first | (go_simp;done) | (go_simp;with_reducible rfl) | with_reducible rfl)
  (try simp only[Act.put,sA,List.set_cons_zero,List.set_cons_succ])
  refine wpAnyH_take (i:=9) (oi:=⟨_,_,_,_,_,_⟩) (v := ?_) rfl (by kernel_rfl) (by kernel_rfl) (by kernel_rfl) (fun _ _ _ h=>h) (Or.inl ⟨by rfl,?_⟩) ⟨hS,pa,pb⟩ ?_
  rotate_left
  ·intro w' hS';(first | (go_simp;done) | (go_simp;with_reducible rfl) | with_reducible rfl)
  (try simp only[Act.put,sA,List.set_cons_zero,List.set_cons_succ])
  refine wpAnyH_done (by kernel_rfl) ?_ _
  have l5:=r5.len;have l6:=r6.len;have z1:=r1.len;have z2:=r2.len;go_wp2_with fail
  go_meet
  case rel=>exact ⟨_,_,_,_,_,_,_,_,rfl,rfl,r5,r6,h5,h5',h6,h6',by omega,by omega,HG.out,pr,hS⟩
 case rest =>
  obtain ⟨A1,n1,c1,A2,n2,c2,p,q,rfl,rfl,HE⟩:=hcut;clear ha hb pa pb pr hS HG;go_wp2_with fail
  go_loopg [5,6,7,8] q (fun q v v' _ _ wz => ∃ A1 n1 c1 A2 n2 c2 p,v = .slice A1 n1 c1∧v' = .slice A2 n2 c2∧Hid (Rd .u32 wz wz.heap.size A1 n1 (Ae p)∧Rd .u32 wz wz.heap.size A2 n2 (Ae q)∧n1≤c1∧c1≤9223372036854775807∧n2≤c2∧c2≤9223372036854775807∧n1≤1073741824∧n2≤1073741824∧Nat.gcd p q=G∧Pr wz (w.heap.size+1+1) false none 0 0∧Below w.heap.size w wz))
  case atStart=>exact ⟨_,_,_,_,_,_,_,rfl,rfl,HE⟩
  case round =>
   clear HE;obtain ⟨q,rfl⟩ : ∃ i,i=gk:=⟨_,rfl⟩;obtain ⟨A1,n1,c1,A2,n2,c2,p,rfl,rfl,HP⟩:=hrel;obtain ⟨r1,r2,h1,h1',h2,h2',l1,l2,hgc,pr,bR⟩:=HP.out;have HGC:=Lib.hid hgc;clear HP hgc;by_cases h0:n2=0
   ·subst h0
    have hq0:q=0:=(AQ q).1 r2.len;subst hq0;have hpG:p=G:=by have:=HGC.out;rwa [Nat.gcd_zero_right] at this
    subst hpG;have HM:=Lib.hid (QL false wr r1 h1 h1' (by omega))
    rw[Wz] at HM;clear HGC;go_wp2_with fail
    refine HM.out.mono ?_;rintro e w2 ⟨neg,A5,n5,c5,rfl,ci,d2⟩;have p2:=pr.call d2;obtain ⟨q0,q1,f0,f1,k0,k1⟩:=p2.all (.bool neg) (.slice A5 n5 c5);clear HM;go_wp2
    ((try simp only[Exit.inBlock,Exit.then]);refine bodyPost_ret (by simp[results,Tryz.results148,go_sem,k0,k1];try rfl) rfl ?_)
    exact RetInt.stored ci p2 (AA bR d2) (by omega)
   ·have hgt:decide ((0:Int) < (n2:Int))=true:=by simp;omega
    have hgt':0 < n2:=by omega
    have hq0:q≠0:=by
     intro h;have:=r2.len;rw[h,AY] at this;simp at this;omega
    have HD:=Lib.hid (Hv wr r1 r2 h1 h1' h2 h2' l1 l2 hq0);have HQ:=Lib.hid hq0;clear hq0;go_wp2_with fail
    refine HD.out.mono ?_;rintro e W5 ⟨A5,n5,c5,A6,n6,c6,rfl,r5,r6,h5,h5',h6,h6',d5⟩;replace r2:=r2.call d5
    replace pr:=pr.call d5
    replace bR:=AA bR d5
    clear HD;go_wp2_with fail
    go_roundg (p % q)
    case rel=>exact ⟨A2,n2,c2,A6,n6,c6,q,rfl,rfl,r2,r6,h2,h2',h6,h6',l2,by rw[←r6.len];exact Nat.le_trans (AW (Nat.le_of_lt (Nat.mod_lt p (Nat.pos_of_ne_zero HQ.out)))) (by rw[r2.len];exact l2),by rw[Nat.gcd_comm,←Nat.gcd_rec,Nat.gcd_comm];exact HGC.out,pr,bR⟩
    case measure=>exact Nat.mod_lt p (Nat.pos_of_ne_zero HQ.out)
def D5 (w:World)(z code:Int)(e:Ending)(w':World):Prop :=
 ∃ s A n c,e = .returned (.tuple #[.agg #[.bool s,.slice A n c],.int .i64 code])∧CInt w' s A n c z∧Below w.heap.size w w'
def inR (z:Int):Bool:=decide (-9223372036854775808≤z)&&decide (z≤9223372036854775807)
def OB (z:Int):Int:=if inR z then z else 0
def PE (z:Int):Int:=if inR z then 0 else 5
theorem Jx {z:Int}(h:inR z=true):OB z=z∧PE z=0:=by unfold OB PE;rw[if_pos h,if_pos h];exact ⟨rfl,rfl⟩
theorem Ex {z:Int}(h:inR z=false):OB z=0∧PE z=5:=by unfold OB PE;rw[h];exact ⟨rfl,rfl⟩
theorem JJ (v:Nat):inR (v:Int)=decide ((v:Int) < 9223372036854775808):=by unfold inR;rw[Bool.eq_iff_iff];simp <;> omega
theorem JK (v:Nat):inR (-(v:Int))=decide ((v:Int)≤9223372036854775808):=by unfold inR;rw[Bool.eq_iff_iff];simp <;> omega
theorem R9 {v:Nat}(h:inR (-(v:Int))=true):IntKind.i64.wrap (IntKind.u64.wrap (-(v:Int))) = -(v:Int):=by
 rw[JK] at h;simp at h;rw[IntKind.wrap_i64,IntKind.wrap_u64];omega
theorem R8 {v:Nat}(h:inR (v:Int)=true):IntKind.i64.wrap (v:Int)=(v:Int):=by
 rw[JJ] at h;simp at h;rw[IntKind.wrap_i64];omega
theorem Um {z:Int}{m:Nat}(h:(Ae z.natAbs).length=m)(hm:2 < m):inR z=false:=by
 have h0:z.natAbs≠0:=fun e=>by rw[e,AY] at h;simp at h;omega
 have h1:=KH h0;rw[h] at h1;have h2:4294967296 ^ 2≤4294967296 ^ (m - 1):=Nat.pow_le_pow_right (by omega) (by omega)
 have h3:18446744073709551616≤z.natAbs:=Nat.le_trans h2 h1;unfold inR;rw[Bool.and_eq_false_iff];simp;omega
theorem Wq {v m:Nat}(h:(Ae v).length=m)(hm:m≤2):v < 18446744073709551616:=by
 have h1:=Ca v;rw[h] at h1;exact Nat.lt_of_lt_of_le h1 (Nat.le_trans (Nat.pow_le_pow_right (by omega) hm) (by decide))
theorem J2 {v c v' c':Int}(h:v=v')(h':c=c'):Ending.returned (.tuple #[.int .i64 v,.int .i64 c]) = .returned (.tuple #[.int .i64 v',.int .i64 c']):=by rw[h,h']
set_option maxHeartbeats 1000000 in
set_option maxRecDepth 100000 in
theorem PZ {s:Bool}{A:Option Addr}{n c:Nat}{z:Int}(w:World)(ha:AInt w s A n c z) :
  Calls Tryz.prog 158 #[.agg #[.bool s,.slice A n c]] w (Gk w (.tuple #[.int .i64 (OB z),.int .i64 (PE z)])):=by
 have hz:=ha.sign_eq;obtain ⟨m,hm,r,HA⟩:=ha.still;obtain ⟨W,hW⟩ : ∃ W,W=w.alloc (.cells #[.bool s,.slice A n c] 24):=⟨_,rfl⟩;have bW:Below w.heap.size w W:=by rw[hW];exact Ek w _
 have pa:Pr W w.heap.size s A n c:=by rw[hW];exact Pr.new w s A n c
 have a0:=pa.cell0;have a1:=pa.cell1;have HT:=Lib.hid (HA.out W bW);have hrW:=r.call bW;have HZ:=Lib.hid hz;have HB:=Lib.hid (Um r.len);have HSM:=Lib.hid (Wq r.len);clear hz HA r;generalize z.natAbs=v at *;obtain ⟨rv,hrv⟩ : ∃ rv,rv=OB z:=⟨_,rfl⟩;obtain ⟨rc,hrc⟩ : ∃ rc,rc=PE z:=⟨_,rfl⟩;rw[←hrv,←hrc];have HRV:=Lib.hid hrv;have HRC:=Lib.hid hrc;clear hrv hrc;by_cases h2:2 < m
 ·have hd:decide ((2:Int) < (m:Int))=true:=by simp;omega
  have HO:=Lib.hid (Ex (HB.out h2));go_enter Tryz.func158,Tryz.ntmps158
  go_wp2_with fail
  rw[←hW];clear hW;refine HT.out.mono ?_;rintro e w1 ⟨rfl,rfl⟩;go_wp2
  go_ret2
  exact ⟨J2 (by rw[HRV.out,HO.out.1]) (by rw[HRC.out,HO.out.2]),bW⟩
 ·have hd:decide ((2:Int) < (m:Int))=false:=by simp;omega
  have HTW:=Lib.hid (D7 (c:=m) W hrW (HSM.out (by omega)))
  cases hin:inR z with
  | true =>
   have HO:=Lib.hid (Jx hin);cases s
   ·have hzv:z=(v:Int):=HZ.out
    rw[hzv] at hin;have HBK:=Lib.hid (R8 hin);have ht:decide ((v:Int) < 9223372036854775808)=true:=by rw[←JJ];exact hin
    have HZV:=Lib.hid hzv;clear hin hzv;go_enter Tryz.func158,Tryz.ntmps158
    go_wp2_with fail
    rw[←hW];clear hW;refine HT.out.mono ?_;rintro e w1 ⟨rfl,rfl⟩;go_wp2_with fail
    refine HTW.out.mono ?_;rintro e w2 ⟨rfl,hq⟩;have d2:=BR hq;obtain ⟨a0,a1⟩:=(pa.call d2).cells1;clear hq HTW HT;have hbk:=HBK.out;go_wp2
    go_ret2
    exact ⟨J2 (by rw[HRV.out,HO.out.1,HZV.out]) (by rw[HRC.out,HO.out.2]),AA bW d2⟩
   ·have hzv:z = -(v:Int):=HZ.out
    rw[hzv] at hin;have HBK:=Lib.hid (R9 hin);have ht:decide ((v:Int)≤9223372036854775808)=true:=by rw[←JK];exact hin
    have HZV:=Lib.hid hzv;clear hin hzv;go_enter Tryz.func158,Tryz.ntmps158
    go_wp2_with fail
    rw[←hW];clear hW;refine HT.out.mono ?_;rintro e w1 ⟨rfl,rfl⟩;go_wp2_with fail
    refine HTW.out.mono ?_;rintro e w2 ⟨rfl,hq⟩;have d2:=BR hq;obtain ⟨a0,a1⟩:=(pa.call d2).cells1;clear hq HTW HT;have hbk:=HBK.out;go_wp2
    go_ret2
    exact ⟨J2 (by rw[HRV.out,HO.out.1,HZV.out]) (by rw[HRC.out,HO.out.2]),AA bW d2⟩
  | false =>
   have HO:=Lib.hid (Ex hin);cases s
   ·have hzv:z=(v:Int):=HZ.out
    rw[hzv] at hin;have ht:decide ((v:Int) < 9223372036854775808)=false:=by rw[←JJ];exact hin
    clear hin hzv;go_enter Tryz.func158,Tryz.ntmps158
    go_wp2_with fail
    rw[←hW];clear hW;refine HT.out.mono ?_;rintro e w1 ⟨rfl,rfl⟩;go_wp2_with fail
    refine HTW.out.mono ?_;rintro e w2 ⟨rfl,hq⟩;have d2:=BR hq;obtain ⟨a0,a1⟩:=(pa.call d2).cells1;clear hq HTW HT;go_wp2
    go_ret2
    exact ⟨J2 (by rw[HRV.out,HO.out.1]) (by rw[HRC.out,HO.out.2]),AA bW d2⟩
   ·have hzv:z = -(v:Int):=HZ.out
    rw[hzv] at hin;have ht:decide ((v:Int)≤9223372036854775808)=false:=by rw[←JK];exact hin
    clear hin hzv;go_enter Tryz.func158,Tryz.ntmps158
    go_wp2_with fail
    rw[←hW];clear hW;refine HT.out.mono ?_;rintro e w1 ⟨rfl,rfl⟩;go_wp2_with fail
    refine HTW.out.mono ?_;rintro e w2 ⟨rfl,hq⟩;have d2:=BR hq;obtain ⟨a0,a1⟩:=(pa.call d2).cells1;clear hq HTW HT;go_wp2
    go_ret2
    exact ⟨J2 (by rw[HRV.out,HO.out.1]) (by rw[HRC.out,HO.out.2]),AA bW d2⟩
theorem O8 {v m:Nat}(h:(Ae v).length=m)(hm:m≤2):v=(Ae v).getD 0 0+4294967296*(Ae v).getD 1 0∧(Ae v).getD 0 0 < 4294967296∧(Ae v).getD 1 0 < 4294967296:=by
 refine ⟨?_,(Ai v).getD 0,(Ai v).getD 1⟩;have hv:=An v;generalize Ae v=ds at *
 match ds,h with
 | [],_=>simp[val] at hv ⊢;omega
 | [a],_=>simp[val] at hv ⊢;omega
 | [a,b],_=>simp[val] at hv ⊢;omega
 | a::b::c::r,h=>simp at h;omega
end Go.Proofs.YtdgbealknnmkoaaGreatDoor
