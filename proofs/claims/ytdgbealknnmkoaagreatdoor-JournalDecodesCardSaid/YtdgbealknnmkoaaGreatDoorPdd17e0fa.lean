/- Texts of one proof, put together by a program: each lemma is proved for all values of its variables, under the premises that it states. -/
import Derived.Test.YtdgbealknnmkoaaGreatDoorPd224f63e
import Derived.Test.YtdgbealknnmkoaaGreatDoorP2d4812f5
set_option linter.unusedVariables false
set_option linter.unusedSimpArgs false
namespace Go.Proofs.YtdgbealknnmkoaaGreatDoor
open Go Go.RowKit
def Pa:Value→Bool
 | .int .u32 _=>false
 | _=>true
def okCell (v:Value):Bool:=v.oneCell'&&Pa v
def Kz:Option Obj→Prop
 | some (.cells cs _ _) => ∀ v∈cs.toList,Pa v=true
 | _=>False
structure WStep (N:Nat→Prop) (w w':World):Prop where
 size:w.heap.size≤w'.heap.size
 keep : ∀ b,b < w.heap.size→w'.heap[b]? = w.heap[b]? ∨ (¬ N b∧Kz w.heap[b]?)
theorem WStep.refl (N:Nat→Prop)(w:World):WStep N w w:=⟨Nat.le_refl _,fun _ _ => .inl rfl⟩
theorem WStep.of_below {N:Nat→Prop}{w w':World}(h:Below w.heap.size w w'):WStep N w w':=⟨h.size,fun b hb => .inl (h.block b hb)⟩
theorem WStep.of_heap {N:Nat→Prop}{w w':World}(h:w'.heap=w.heap):WStep N w w':=⟨by rw[h];exact Nat.le_refl _,fun b hb => .inl (by rw[h])⟩
structure Item where
 n:Nat
 T:(Nat→Prop)→World→List Value→Prop
 step : ∀ {N N':Nat→Prop} {w w':World} {l:List Value},WStep N w w'→(∀ b,N b→N' b)→T N w l→T N' w' l
 len : ∀ {N:Nat→Prop} {w:World} {l:List Value},T N w l→l.length=n
 one : ∀ {N:Nat→Prop} {w:World} {l:List Value},T N w l → ∀ v∈l,okCell v=true
structure WInv where
 T:(Nat→Prop)→World→Prop
 step : ∀ {N N':Nat→Prop} {w w':World},WStep N w w'→(∀ b,N b→N' b)→T N w→T N' w'
inductive It0 where
 | lit (v:Value)
 | it (i:Item)
inductive It where
 | b (x:It0)
 | ptr (k off:Nat)
 | fp (l:List It0)
 | sl (k:Nat)
 | clo (f:FuncId) (l:List (Nat×Nat))
def It0.n:It0→Nat
 | .it i=>i.n
 | .lit _=>1
def It.n:It→Nat
 | .b x=>x.n
 | _=>1
inductive GV where
 | box (b:Nat)
 | sl (A:Option Addr) (n c:Nat)
abbrev Gh:=Nat→Option GV
def GV.blk:GV→Option Nat
 | .box b=>some b
 | .sl (some a) _ _=>some a.block
 | .sl none _ _=>none
def AI (g:Gh)(k:Nat):Option Nat:=(g k).bind GV.blk
def It0.sem (N:Nat→Prop)(w:World):It0→List Value→Prop
 | .lit v,l=>l=[v]
 | .it i,l=>i.T N w l
def Dp (N:Nat→Prop)(w:World):List It0→List Value→Prop
 | [],l=>l=[]
 | x::xs,l => ∃ l1 l2,l=l1++l2∧x.sem N w l1∧Dp N w xs l2
def RowAt (N:Nat→Prop)(w:World)(b off:Nat)(x:List It0):Prop :=
 ∃ cs T fr vs,N b∧w.heap[b]? = some (.cells cs T fr)∧(cs.toList.drop off).take vs.length=vs∧Dp N w x vs
def Fd (g:Gh):List (Nat×Nat)→List Value→Prop
 | [],vs=>vs=[]
 | p::r,vs => ∃ b t,AI g p.1=some b∧vs = .pointer (some ⟨b,p.2,none⟩)::t∧Fd g r t
def It.sem (N:Nat→Prop)(w:World)(g:Gh):It→List Value→Prop
 | .b x,l=>x.sem N w l
 | .ptr k off,l => ∃ b,AI g k=some b∧l=[.pointer (some ⟨b,off,none⟩)]
 | .fp x,l => ∃ b off,l=[.pointer (some ⟨b,off,none⟩)]∧RowAt N w b off x
 | .sl k,l => ∃ A n c,g k=some (.sl A n c)∧l=[.slice A n c]
 | .clo f p,l => ∃ cs,Fd g p cs∧l=[.func (.func f) #[] cs.toArray]
def Bt (N:Nat→Prop)(w:World)(g:Gh):List It→List Value→Prop
 | [],l=>l=[]
 | x::xs,l => ∃ l1 l2,l=l1++l2∧x.sem N w g l1∧Bt N w g xs l2
inductive CT where
 | one (x:It)
 | ag (l:List It)
inductive TV where
 | cv (c:CT)
 | tu (l:List CT)
abbrev It.i (z:Int):It := .b (.lit (.int .i64 z))
abbrev It.o (b:Bool):It := .b (.lit (.bool b))
abbrev It.z:It := .b (.lit (.slice none 0 0))
abbrev TV.i (z:Int):TV := .cv (.one (.b (.lit (.int .i64 z))))
abbrev TV.o (b:Bool):TV := .cv (.one (.b (.lit (.bool b))))
abbrev TV.p (k o:Nat):TV := .cv (.one (.ptr k o))
abbrev TV.s (k:Nat):TV := .cv (.one (.sl k))
abbrev TV.t (i:Item):TV := .cv (.one (.b (.it i)))
abbrev CT.i (z:Int):CT := .one (.b (.lit (.int .i64 z)))
abbrev CT.t (i:Item):CT := .one (.b (.it i))
def CT.sem (N:Nat→Prop)(w:World)(g:Gh):CT→Value→Prop
 | .one x,v=>x.sem N w g [v]
 | .ag l,v => ∃ vs,v = .agg vs.toArray∧Bt N w g l vs
def all2 (R:CT→Value→Prop):List CT→List Value→Prop
 | [],vs=>vs=[]
 | c::cs,vs => ∃ v l,vs=v::l∧R c v∧all2 R cs l
def TV.sem (N:Nat→Prop)(w:World)(g:Gh):TV→Value→Prop
 | .cv c,v=>c.sem N w g v
 | .tu l,v => ∃ vs,v = .tuple vs.toArray∧all2 (CT.sem N w g) l vs
section
variable {N N':Nat→Prop}{w w':World}{g g':Gh}
def GExt (g g':Gh):Prop := ∀ k b,g k=some b→g' k=some b
theorem GExt.refl (g:Gh):GExt g g:=fun _ _ h=>h
theorem GExt.blk (h:GExt g g'){k b:Nat}(hb:AI g k=some b):AI g' k=some b:=by
 unfold AI at *;cases hk:g k with
 | none=>rw[hk] at hb;cases hb
 | some v=>rw[hk] at hb;rw[h k v hk];exact hb
theorem It0.step {x:It0}{l:List Value}(h:x.sem N w l)(hw:WStep N w w')(hN : ∀ b,N b→N' b):x.sem N' w' l:=by
 cases x with
 | lit v=>exact h
 | it i=>exact i.step hw hN h
theorem E4 (hw:WStep N w w')(hN : ∀ b,N b→N' b) : ∀ {xs:List It0} {l:List Value},Dp N w xs l→Dp N' w' xs l
 | [],_,h=>h
 | x::xs,_,⟨l1,l2,e,h1,h2⟩=>⟨l1,l2,e,It0.step h1 hw hN,E4 hw hN h2⟩
theorem RowAt.step {b off:Nat}{x:List It0}(h:RowAt N w b off x)(hw:WStep N w w')(hN : ∀ b,N b→N' b):RowAt N' w' b off x:=by
 obtain ⟨cs,T,fr,vs,h1,h2,h3,h4⟩:=h;refine ⟨cs,T,fr,vs,hN b h1,?_,h3,E4 hw hN h4⟩;rcases hw.keep b (Array.getElem?_eq_some_iff.1 h2).1 with e | e
 ·rw[e];exact h2
 ·exact absurd h1 e.1
theorem Ln {g g':Gh}{f:Nat→Nat} : ∀ {l:List (Nat×Nat)} {cs:List Value},(∀ p∈l,∀ b,AI g p.1=some b→AI g' (f p.1)=some b)→Fd g l cs→Fd g' (l.map fun p=>(f p.1,p.2)) cs
 | [],_,_,h=>h
 | p::r,_,hm,⟨b,t,h1,h2,h3⟩=>⟨b,t,hm p (by simp) b h1,h2,Ln (fun q hq=>hm q (by simp[hq])) h3⟩
theorem Ei {g g':Gh} : ∀ {l:List (Nat×Nat)} {cs:List Value},(∀ p∈l,∀ b,AI g p.1=some b→AI g' p.1=some b)→Fd g l cs→Fd g' l cs
 | [],_,_,h=>h
 | p::r,_,hm,⟨b,t,h1,h2,h3⟩=>⟨b,t,hm p (by simp) b h1,h2,Ei (fun q hq=>hm q (by simp[hq])) h3⟩
theorem It.step {x:It}{l:List Value}(h:x.sem N w g l)(hw:WStep N w w')(hN : ∀ b,N b→N' b)(hg:GExt g g'):x.sem N' w' g' l:=by
 cases x with
 | b x=>exact It0.step h hw hN
 | ptr k off=>obtain ⟨b,h1,h2⟩:=h;exact ⟨b,hg.blk h1,h2⟩
 | fp x=>obtain ⟨b,off,h1,h2⟩:=h;exact ⟨b,off,h1,h2.step hw hN⟩
 | sl k=>obtain ⟨A,n,c,h1,h2⟩:=h;exact ⟨A,n,c,hg k _ h1,h2⟩
 | clo f p=>obtain ⟨cs,h1,h2⟩:=h;exact ⟨cs,Ei (fun q _ b hb=>hg.blk hb) h1,h2⟩
theorem It0.len {x:It0}{l:List Value}(h:x.sem N w l):l.length=x.n:=by
 cases x with
 | lit v=>rw[show l=[v] from h];rfl
 | it i=>exact i.len h
theorem It.len {x:It}{l:List Value}(h:x.sem N w g l):l.length=x.n:=by
 cases x with
 | b x=>exact It0.len h
 | ptr k off=>obtain ⟨b,_,h2⟩:=h;rw[h2];rfl
 | fp x=>obtain ⟨b,off,h2,_⟩:=h;rw[h2];rfl
 | sl k=>obtain ⟨A,n,c,_,h2⟩:=h;rw[h2];rfl
 | clo f p=>obtain ⟨cs,_,h2⟩:=h;rw[h2];rfl
theorem Cn (hw:WStep N w w')(hN : ∀ b,N b→N' b)(hg:GExt g g') : ∀ {xs:List It} {l:List Value},Bt N w g xs l→Bt N' w' g' xs l
 | [],_,h=>h
 | x::xs,_,⟨l1,l2,e,h1,h2⟩=>⟨l1,l2,e,It.step h1 hw hN hg,Cn hw hN hg h2⟩
theorem Di : ∀ {xs:List It0} {l:List Value},Dp N w xs l→Bt N w g (xs.map It.b) l
 | [],_,h=>h
 | x::xs,_,⟨l1,l2,e,h1,h2⟩=>⟨l1,l2,e,h1,Di h2⟩
theorem E0 : ∀ {xs:List It0} {l:List Value},Bt N w g (xs.map It.b) l→Dp N w xs l
 | [],_,h=>h
 | x::xs,_,⟨l1,l2,e,h1,h2⟩=>⟨l1,l2,e,h1,E0 h2⟩
theorem CT.step {c:CT}{v:Value}(h:c.sem N w g v)(hw:WStep N w w')(hN : ∀ b,N b→N' b)(hg:GExt g g'):c.sem N' w' g' v:=by
 cases c with
 | one x=>exact It.step h hw hN hg
 | ag l=>obtain ⟨vs,e,h⟩:=h;exact ⟨vs,e,Cn hw hN hg h⟩
theorem Oz {R R':CT→Value→Prop}(h : ∀ c v,R c v→R' c v) : ∀ {cs:List CT} {vs:List Value},all2 R cs vs→all2 R' cs vs
 | [],_,e=>e
 | _::_,_,⟨v,l,e,h1,h2⟩=>⟨v,l,e,h _ _ h1,Oz h h2⟩
theorem TV.step {t:TV}{v:Value}(h:t.sem N w g v)(hw:WStep N w w')(hN : ∀ b,N b→N' b)(hg:GExt g g'):t.sem N' w' g' v:=by
 cases t with
 | cv c=>exact CT.step h hw hN hg
 | tu l=>obtain ⟨vs,e,h⟩:=h;exact ⟨vs,e,Oz (fun c v h=>CT.step h hw hN hg) h⟩
def Cb (l:List It):Nat:=(l.map It.n).sum
theorem Fu : ∀ {xs:List It} {l:List Value},Bt N w g xs l→l.length=Cb xs
 | [],_,h=>by rw[show _=[] from h];rfl
 | x::xs,_,⟨l1,l2,e,h1,h2⟩=>by
  rw[e,List.length_append,It.len h1,Fu h2];simp[Cb]
theorem BW : ∀ {xs ys:List It} {l1 l2:List Value},Bt N w g xs l1→Bt N w g ys l2→Bt N w g (xs++ys) (l1++l2)
 | [],_,_,_,h1,h2=>by rw[show _=[] from h1];exact h2
 | x::xs,_,_,_,⟨a,b,e,h1,h2⟩,h3=>⟨a,b++_,by rw[e,List.append_assoc],h1,BW h2 h3⟩
theorem H5 : ∀ {xs ys:List It} {l:List Value},Bt N w g (xs++ys) l → ∃ l1 l2,l=l1++l2∧Bt N w g xs l1∧Bt N w g ys l2
 | [],_,l,h=>⟨[],l,rfl,rfl,h⟩
 | x::xs,_,l,⟨a,b,e,h1,h2⟩=>by
  obtain ⟨c,d,e2,h3,h4⟩:=H5 h2;exact ⟨a++c,d,by rw[e,e2,List.append_assoc],⟨a,c,rfl,h1,h3⟩,h4⟩
def Cj:List It→Nat→Option (List It×List It)
 | l,0=>some ([],l)
 | [],_+1=>none
 | x::xs,off+1=>if x.n≤off+1 then (Cj xs (off+1 - x.n)).map fun p=>(x::p.1,p.2) else none
theorem Es : ∀ {xs : List It} {off : Nat} {a b : List It} {l : List Value}, Cj xs off = some (a, b) → Bt N w g xs l → Bt N w g a (l.take off) ∧ Bt N w g b (l.drop off) ∧ off ≤ l.length
 | xs,0,a,b,l,h,hs=>by
  have h':(([]:List It),xs)=(a,b):=by
   have:Cj xs 0=some ([],xs):=by cases xs <;> rfl
   rw[this] at h;exact Option.some.inj h
  injection h' with h1 h2;subst h1 h2;exact ⟨by simp[Bt],by simpa using hs,by omega⟩
 | [],_+1,_,_,_,h,_=>by cases h
 | x::xs,off+1,a,b,l,h,⟨l1,l2,e,h1,h2⟩=>by
  simp only[Cj] at h;split at h
  ·rename_i hx
   cases hc:Cj xs (off+1 - x.n) with
   | none=>rw[hc] at h;cases h
   | some p =>
    rw[hc] at h;injection h with h;injection h with e1 e2;subst e1 e2;obtain ⟨c1,c2,c3⟩:=Es (a:=p.1) (b:=p.2) hc h2;have hl:=It.len h1;subst e;have t1:(l1++l2).take (off+1)=l1++l2.take (off+1 - x.n):=by
     rw[List.take_append,hl,List.take_of_length_le (by omega)]
    have t2:(l1++l2).drop (off+1)=l2.drop (off+1 - x.n):=by
     rw[List.drop_append,hl,List.drop_of_length_le (by omega),List.nil_append]
    exact ⟨⟨l1,_,t1,h1,c1⟩,by rw[t2];exact c2,by rw[List.length_append];omega⟩
  ·cases h
def Fs (l:List It)(off n:Nat):Option (List It) :=
 match Cj l off with
 | some (_,r)=>(Cj r n).map (·.1)
 | none=>none
theorem NA {xs m:List It}{off n:Nat}{l:List Value}(h:Fs xs off n=some m)(hs:Bt N w g xs l):Bt N w g m ((l.drop off).take n)∧off+n≤l.length:=by
 unfold Fs at h;split at h
 ·rename_i a r hc
  cases hc2:Cj r n with
  | none=>rw[hc2] at h;cases h
  | some p =>
   rw[hc2] at h;injection h with h;subst h;obtain ⟨_,h2,h3⟩:=Es hc hs;obtain ⟨k1,_,k3⟩:=Es (a:=p.1) (b:=p.2) hc2 h2;rw[List.length_drop] at k3;exact ⟨k1,by omega⟩
 ·cases h
def Ew (l:List It)(off:Nat)(new:List It):Option (List It) :=
 match Cj l off with
 | some (a,r)=>(Cj r (Cb new)).map fun p=>a++new++p.2
 | none=>none
theorem Ko {xs new m:List It}{off:Nat}{l vs:List Value}(h:Ew xs off new=some m)(hs:Bt N w g xs l)(hv:Bt N w g new vs):Bt N w g m (l.take off++vs++l.drop (off+vs.length))∧off+vs.length≤l.length:=by
 have hlen:=Fu hv;unfold Ew at h;split at h
 ·rename_i a r hc
  cases hc2:Cj r (Cb new) with
  | none=>rw[hc2] at h;cases h
  | some p =>
   rw[hc2] at h;injection h with h;subst h;obtain ⟨h1,h2,h3⟩:=Es hc hs;obtain ⟨k1,k2,k3⟩:=Es (a:=p.1) (b:=p.2) hc2 h2;rw[List.length_drop] at k3;rw[List.drop_drop,←hlen] at k2;exact ⟨BW (BW h1 hv) k2,by omega⟩
 ·cases h
def It.okB:It→Bool
 | .b (.lit v)=>okCell v
 | .clo _ _=>false
 | _=>true
theorem It.cells {x:It}{l:List Value}(h:x.sem N w g l)(hb:x.okB=true) : ∀ v∈l,okCell v=true:=by
 cases x with
 | b x =>
  cases x with
  | lit u =>
   rw[show l=[u] from h];intro v hv;simp at hv;subst hv;exact hb
  | it i=>exact i.one h
 | ptr k off=>obtain ⟨b,_,h2⟩:=h;rw[h2];intro v hv;simp at hv;subst hv;rfl
 | fp x=>obtain ⟨b,off,h2,_⟩:=h;rw[h2];intro v hv;simp at hv;subst hv;rfl
 | sl k=>obtain ⟨A,n,c,_,h2⟩:=h;rw[h2];intro v hv;simp at hv;subst hv;rfl
 | clo f p=>cases hb
theorem D9 : ∀ {xs:List It} {l:List Value},Bt N w g xs l→xs.all It.okB=true → ∀ v∈l,okCell v=true
 | [],_,h,_=>by rw[show _=[] from h];simp
 | x::xs,_,⟨l1,l2,e,h1,h2⟩,hb=>by
  simp only[List.all_cons,Bool.and_eq_true] at hb;intro v hv;rw[e] at hv;rcases List.mem_append.1 hv with hv | hv
  ·exact It.cells h1 hb.1 v hv
  ·exact D9 h2 hb.2 v hv
def CT.cells:CT→List It
 | .one x=>[x]
 | .ag l=>l
theorem okCell.one {v:Value}(h:okCell v=true):v.oneCell'=true:=by unfold okCell at h;simp at h;exact h.1
theorem okCell.nu {v:Value}(h:okCell v=true):Pa v=true:=by unfold okCell at h;simp at h;exact h.2
theorem CT.cells_sem {c:CT}{v:Value}(h:c.sem N w g v)(hb:c.cells.all It.okB=true) : ∃ vs,v.cells=vs.toArray∧Bt N w g c.cells vs:=by
 cases c with
 | ag l=>obtain ⟨vs,e,h⟩:=h;exact ⟨vs,by rw[e];rfl,h⟩
 | one x =>
  have h1:=D9 (xs:=[x]) (l:=[v]) ⟨[v],[],by simp,h,rfl⟩ hb v (by simp)
  refine ⟨[v],?_,⟨[v],[],by simp,h,rfl⟩⟩
  have:=okCell.one h1;cases v <;> first | rfl | (simp[Value.oneCell'] at this)
end
structure Ent where
 T:TypeId
 sl:Option (Nat×Nat)
 its:List It
def BoxSem (N:Nat→Prop)(w:World)(g:Gh)(base:Nat→Prop)(k:Nat)(e:Ent):Prop :=
 ∃ gv,g k=some gv ∧
  ((∃ s n,e.sl=some (s,n)∧gv = .sl none n 0∧n=0∧Bt N w g e.its []) ∨
  ∃ b cs l,gv.blk=some b∧w.heap[b]? = some (.cells cs e.T (0,0))∧Bt N w g e.its l∧(∀ v∈cs.toList,okCell v=true) ∧ ¬ N b ∧ ¬ base b ∧
   ((e.sl=none∧gv = .box b∧cs.toList=l) ∨
    ∃ s n c,e.sl=some (s,n)∧gv = .sl (some ⟨b,0,none⟩) n c∧n≤c∧c≤maxLen∧cs.size=c*s∧l.length=n*s∧cs.toList.take (n*s)=l))
inductive OpK where
 | bin (op:BinOp) (t:TypeId)
 | un (op:UnOp)
 | conv (s d:TypeId)
 | idx (t:TypeId)
 | idxA (t:TypeId)
 | load (t:TypeId)
 | bs (t:TypeId) (len:Nat) (ix:List Nat)
 | slc (t:TypeId) (lo hi mx:Bool)
 | len (ts:Array TypeId) (t:TypeId)
 | cap (ts:Array TypeId) (t:TypeId)
 | min (ts:Array TypeId) (t:TypeId)
 | max (ts:Array TypeId) (t:TypeId)
 | app (ts:Array TypeId) (t:TypeId)
def OpK.same:OpK→OpK→Bool
 | .bin o t,.bin o' t'=>decide (o=o')&&Nat.beq t t'
 | .un o,.un o'=>decide (o=o')
 | .conv s d,.conv s' d'=>Nat.beq s s'&&Nat.beq d d'
 | .idx t,.idx t'=>Nat.beq t t'
 | .idxA t,.idxA t'=>Nat.beq t t'
 | .load t,.load t'=>Nat.beq t t'
 | .bs t _ _,.bs t' _ _=>Nat.beq t t'
 | .slc t _ _ _,.slc t' _ _ _=>Nat.beq t t'
 | .len _ _,.len _ _=>true
 | .cap _ _,.cap _ _=>true
 | .min _ _,.min _ _=>true
 | .max _ _,.max _ _=>true
 | .app _ _,.app _ _=>true
 | _,_=>false
def OpK.run:OpK→List Value→Sem Value
 | .bin op t,[a,b]=>match a,b with
  | .nilIface, .nilIface => stuck "nil twice"
  | _,_=>do eqGuard op t (.tmp 0) (.tmp 1) a b;binOp op t a b
 | .un op,[a]=>Op.unary op a
 | .conv s d,[a]=>convert s d a
 | .idx t,[a,b]=>Instr.index t a b
 | .idxA t,[a,b]=>Instr.indexAt t a b
 | .load t,[a]=>Instr.loadAt t a
 | .bs t n ix,l=>Instr.buildSlice t n (ix.zip l).toArray
 | .slc t false false false,[a]=>Instr.sliceAt t a none none none
 | .slc t true false false,[a,l]=>Instr.sliceAt t a (some l) none none
 | .slc t false true false,[a,h]=>Instr.sliceAt t a none (some h) none
 | .slc t true true false,[a,l,h]=>Instr.sliceAt t a (some l) (some h) none
 | .slc t true true true,[a,l,h,m]=>Instr.sliceAt t a (some l) (some h) (some m)
 | .len ts t,l=>Builtin.len_ ts t l.toArray
 | .cap ts t,l=>Builtin.cap_ ts t l.toArray
 | .min ts t,l=>Builtin.min_ ts t l.toArray
 | .max ts t,l=>Builtin.max_ ts t l.toArray
 | .app ts t,l=>Builtin.append_ ts t l.toArray
 | _, _ => stuck "no such operation"
def opK (o:Oper):Option (OpK×List Operand) :=
 match o.op with
 | .binOp op t x y _=>some (.bin op t,[x,y])
 | .unOp op _ x=>some (.un op,[x])
 | .convert s d x=>some (.conv s d,[x])
 | .index t x y=>some (.idx t,[x,y])
 | .indexAddr t x y=>some (.idxA t,[x,y])
 | .load t x=>some (.load t,[x])
 | .buildSlice t n ps=>some (.bs t n (ps.toList.map (·.1)),ps.toList.map (·.2))
 | .slice t x none none none=>some (.slc t false false false,[x])
 | .slice t x (some l) none none=>some (.slc t true false false,[x,l])
 | .slice t x none (some h) none=>some (.slc t false true false,[x,h])
 | .slice t x (some l) (some h) none=>some (.slc t true true false,[x,l,h])
 | .slice t x (some l) (some h) (some m)=>some (.slc t true true true,[x,l,h,m])
 | .call c =>
  match c.callee with
  | .builtin .len=>some (.len c.argTypes o.type,c.args.toList)
  | .builtin .cap=>some (.cap c.argTypes o.type,c.args.toList)
  | .builtin .min=>some (.min c.argTypes o.type,c.args.toList)
  | .builtin .max=>some (.max c.argTypes o.type,c.args.toList)
  | .builtin .append=>some (.app c.argTypes o.type,c.args.toList)
  | _=>none
 | _=>none
def Hp (P:Program){α:Type}:Sem α→Option α
 | .pure a=>some a
 | .program k=>Hp P (k P)
 | .mark _ k=>Hp P k
 | _=>none
theorem Vd {P:Program}{α:Type}(s:Sem α){a:α}(h:Hp P s=some a)(w:World):s.run P w = .ok a w:=by
 induction s with
 | pure x=>simp only[Hp,Option.some.injEq] at h;subst h;rfl
 | program k ih=>simp only[Hp] at h;simp only[Sem.run];exact ih P h
 | mark m k ih=>simp only[Hp] at h;simp only[Sem.run];exact ih h
 | _=>simp[Hp] at h
def DV:List Value→List It
 | []=>[]
 | v::r => .b (.lit v)::DV r
def Fb:Value→Option TV
 | .agg cs=>some (.cv (.ag (DV cs.toList)))
 | .tuple _=>none
 | x=>some (.cv (.one (.b (.lit x))))
def BF (v:Value):TV := .cv (.one (.b (.lit v)))
abbrev Env:=List (Nat×TV)
abbrev Bxs:=List (Nat×Option Ent)
def look (e:Env)(t:Nat):Option TV :=
 match e with
 | []=>none
 | (k,v)::r=>if Nat.beq k t then some v else look r t
def AB (e:Bxs)(t:Nat):Option Ent :=
 match e with
 | []=>none
 | (k,v)::r=>if Nat.beq k t then v else AB r t
def opT (E:Nat→Option TV):Operand→Option TV
 | .tmp t=>E t
 | .const v=>Fb v
 | .func f=>some (BF (.func (.func f) #[] #[]))
 | .global _=>none
def Sx:List It→Option (List Value)
 | []=>some []
 | .b (.lit v)::r=>(Sx r).map (v :: ·)
 | _::_=>none
def AbT:TV→Option Value
 | .cv (.one (.b (.lit v)))=>some v
 | .cv (.ag l)=>(Sx l).map fun vs => .agg vs.toArray
 | _=>none
def Nx (N:Nat→Prop)(w w':World)(b:Nat):Prop:=N b∨(w.heap.size≤b∧b < w'.heap.size)
def G0:Gh:=fun _=>none
def Sp (P:Program)(I:WInv)(f:FuncId)(args:List CT)(res:TV):Prop :=
 ∀ (N:Nat→Prop) (w:World) (vs:List Value),I.T N w→(∀ b,N b→b < w.heap.size)→all2 (CT.sem N w G0) args vs→Calls P f vs.toArray w fun e w' => ∃ v,e = .returned v∧res.sem (Nx N w w') w' G0 v∧Below w.heap.size w w'
def Lp (R:TV→Value→Prop):List TV→List Value→Prop
 | [],vs=>vs=[]
 | c::cs,vs => ∃ v l,vs=v::l∧R c v∧Lp R cs l
def It.noPtr:It→Bool
 | .ptr _ _=>false
 | .sl _=>false
 | .clo _ _=>false
 | _=>true
def CT.noPtr (c:CT):Bool:=c.cells.all It.noPtr
def OO (k:Nat):Option (List CT)→TV
 | none => .cv (.one (.sl k))
 | some l => .tu (.one (.sl k)::l)
def JD (gv:GV):Gh:=fun x=>if x=0 then some gv else none
def SpN (P:Program)(I:WInv)(f:FuncId)(args:List CT)(rest:Option (List CT))(e:Ent):Prop :=
 e.its.all It.noPtr=true ∧ ∀ (N:Nat→Prop) (w:World) (vs:List Value),I.T N w→(∀ b,N b→b < w.heap.size)→all2 (CT.sem N w G0) args vs→Calls P f vs.toArray w fun en w' => ∃ v N' A n c,en = .returned v∧(∀ b,N b→N' b)∧(∀ b,N' b→Nx N w w' b)∧(OO 0 rest).sem N' w' (JD (.sl A n c)) v∧BoxSem N' w' (JD (.sl A n c)) (fun b=>b < w.heap.size) 0 e∧Below w.heap.size w w'
structure KBelow (K:Nat→Prop) (w w':World):Prop where
 os:w'.os=w.os
 tape:w'.tape=w.tape
 output:w'.output=w.output
 size:w.heap.size≤w'.heap.size
 block : ∀ b,K b→w'.heap[b]? = w.heap[b]?
def rgN (k:Nat):Bool:=Nat.blt k 2||Nat.beq k 3
def nI (ins:Bxs):Nat:=match AB ins 3 with
 | some _=>4
 | none=>3
def SpM (P:Program)(I:WInv)(f:FuncId)(ins:Bxs)(args:List CT)(outs:Bxs)(res:TV):Prop :=
 ∀ (N K:Nat→Prop) (w:World) (g:Gh) (vs:List Value),I.T N w→(∀ b,N b→b < w.heap.size)→(∀ b,K b→b < w.heap.size)→(∀ k e,AB ins k=some e→BoxSem N w g K k e) →
  (∀ k j e e' b,AB ins k=some e→AB ins j=some e'→AI g k=some b→AI g j=some b→k=j)→(∀ k,nI ins≤k→g k=none)→all2 (CT.sem N w g) args vs →
  Calls P f vs.toArray w fun en w' => ∃ v N' g',en = .returned v∧(∀ b,N b→N' b)∧(∀ b,N' b→N b∨(¬ K b∧b < w'.heap.size))∧KBelow K w w'∧(∀ k e,AB outs k=some e→BoxSem N' w' g' K k e) ∧
   (∀ k j e e' b,AB outs k=some e→AB outs j=some e'→AI g' k=some b→AI g' j=some b→k=j)∧(∀ k u,rgN k=true→g k=some u→g' k=some u)∧res.sem N' w' g' v
def FY:List Nat→Nat→Nat
 | [],_=>0
 | x::r,k=>if Nat.beq x k then 0 else FY r k+1
def DW (ks:List Nat)(nm:Nat)(i:Nat):Nat:=if Nat.beq i 2 then nm else ks.getD i nm
def It.mapN (f:Nat→Nat):It→It
 | .ptr k off => .ptr (f k) off
 | .sl k => .sl (f k)
 | .clo h l => .clo h (l.map fun p=>(f p.1,p.2))
 | x=>x
def CT.mapN (f:Nat→Nat):CT→CT
 | .one x => .one (x.mapN f)
 | .ag l => .ag (l.map (It.mapN f))
def TV.mapN (f:Nat→Nat):TV→TV
 | .cv c => .cv (c.mapN f)
 | .tu l => .tu (l.map (CT.mapN f))
def It.allN (p:Nat→Bool):It→Bool
 | .ptr k _=>p k
 | .sl k=>p k
 | .clo _ l=>l.all fun q=>p q.1
 | _=>true
def CT.allN (p:Nat→Bool):CT→Bool
 | .one x=>x.allN p
 | .ag l=>l.all (It.allN p)
def TV.allN (p:Nat→Bool):TV→Bool
 | .cv c=>c.allN p
 | .tu l=>l.all (CT.allN p)
def inN:List Nat→Nat→Bool
 | [],_=>false
 | x::r,k=>Nat.beq x k||inN r k
def K5:List Nat→Bool
 | []=>true
 | x::r => !inN r x&&K5 r
def Ent.mapN (f:Nat→Nat)(e:Ent):Ent:={ e with its:=e.its.map (It.mapN f) }
def Ent.out (f:Nat→Nat)(e:Ent):Ent:=if e.sl.isSome then e else e.mapN f
def Ent.okN (p:Nat→Bool)(e:Ent):Bool:=e.sl.isSome||e.its.all (It.allN p)
def NpB:Bxs→Prop
 | []=>True
 | (_,some e)::r=>(e.sl.isSome=true→e.its.all It.noPtr=true)∧NpB r
 | (_,none)::r=>NpB r
def Lt (B:Nat→Option Ent)(ks0:List Nat):List Nat→Nat→Option Bxs
 | [],_=>some []
 | k::r,i=>match B k,Lt B ks0 r (i+1) with
  | some e,some l=>if e.okN (inN ks0) then some ((i,some (e.out (FY ks0)))::l) else none
  | _,_=>none
def Fz (n:Nat)(i:Nat):Bool:=Nat.blt i n||Nat.beq i 2
def K0 (n:Nat):Bxs→Bool
 | []=>true
 | (i,some e)::r=>Fz n i&&e.okN (Fz n)&&K0 n r
 | (_,none)::r=>false
def Lc (f:Nat→Nat):Bxs→Bxs
 | []=>[]
 | (i,some e)::r=>(f i,some (e.out f))::Lc f r
 | (i,none)::r=>Lc f r
def Be (P:Program)(k:OpK)(ts:List TV)(res:TV):Prop :=
 ∀ (N:Nat→Prop) (w:World) (g:Gh) (vs:List Value),Lp (TV.sem N w g) ts vs → ∃ v w',(k.run vs).run P w = .ok v w'∧Below w.heap.size w w'∧res.sem (Nx N w w') w' g v
def Uu (s:Nat)(i:Item)(m:Nat)(x:List It0):Prop :=
 ∀ (N:Nat→Prop) (w:World) (l:List Value),i.T N w l → ∃ A c,l=[.slice A m c]∧((A=none∧m=0∧Dp N w x []) ∨ ∃ a vs,A=some a∧vs.length=m*s∧Dp N w x vs∧(∀ v∈vs,okCell v=true) ∧ ∀ j u,vs[j]? = some u→w.cell? (a.add j)=some u)
structure St where
 E:Env
 B:Bxs
 nx:Nat
inductive Ob where
 | sp (f:FuncId) (args:List CT) (res:TV)
 | op (k:OpK) (ts:List TV) (res:TV)
 | ix (z:Int) (i n:Nat)
 | part (its:List It) (off n:Nat) (m:List It)
 | upd (its:List It) (off:Nat) (new m:List It)
 | mk (z:Int) (n bytes:Nat)
 | ap (n m bytes:Nat)
 | src (s:Nat) (i:Item) (m:Nat) (x:List It0)
 | auto
 | loop (c:Code) (a:St) (ex:Exit) (b:St)
 | leads (a b:St)
 | spn (f:FuncId) (args:List CT) (rest:Option (List CT)) (e:Ent)
 | spm (f:FuncId) (ks:List Nat) (ins:Bxs) (args:List CT) (outs:Bxs) (res:TV)
 | perm (l qs:List Nat) (p k:Nat)
def Ob.prop (P:Program)(I:WInv):Ob→Prop
 | .sp f args res=>Sp P I f args res
 | .op k ts res=>Be P k ts res
 | .ix z i n=>z=(i:Int)∧i < n
 | .part its off n m=>Fs its off n=some m
 | .upd its off new m=>Ew its off new=some m
 | .mk z n bytes=>z=(n:Int)∧bytes*n≤281474976710656∧n≤maxLen
 | .ap n m bytes=>(n+m)*bytes≤140737488355328∧n+m≤maxLen
 | .src s i m x=>Uu s i m x
 | .spn f args rest e=>SpN P I f args rest e
 | .spm f _ ins args outs res=>SpM P I f ins args outs res∧NpB ins∧NpB outs
 | _=>True
def TV.noPtr:TV→Bool
 | .cv c=>c.noPtr
 | .tu l=>l.all CT.noPtr
def ON:Option (List CT)→Bool
 | none=>true
 | some l=>l.all CT.noPtr
inductive Eff where
 | val (t:TV)
 | st (k:Nat) (e:Ent)
 | nw (t:TV) (k:Nat) (e:Ent)
 | ap (t:TV) (k k':Nat) (e:Ent)
 | cm (t:TV) (nm:Nat) (ks:List Nat) (outs:Bxs)
def Wo (l:List It)(off n:Nat)(h:List Ob):Option (List It×List Ob×List Ob) :=
 match h with
 | .part _ _ _ m::r=>some (m,[.part l off n m],r)
 | _=>(Fs l off n).map fun m=>(m,[],h)
def Zh (l:List It)(off:Nat)(new:List It)(h:List Ob):Option (List It×List Ob×List Ob) :=
 match h with
 | .upd _ _ _ m::r=>some (m,[.upd l off new m],r)
 | _=>(Ew l off new).map fun m=>(m,[],h)
def Hr (P:Program)(t:TypeId)(l:List It)(off:Nat)(h:List Ob):Option (CT×List Ob×List Ob) :=
 match VS P t,Cd P t with
 | some true,some n=>(Wo l off n h).map fun r=>(.ag r.1,r.2)
 | some false,some 1=>match Wo l off 1 h with
  | some ([x],r)=>some (.one x,r)
  | _=>none
 | _,_=>none
def Gm (place:Nat→Option (Nat×Nat))(its:List It):List (Nat×CT)→Option (List It)
 | []=>some its
 | (i,v)::rest =>
  match place i with
  | none=>none
  | some (off,size) =>
   if Nat.beq (Cb v.cells) size&&v.cells.all It.okB then
    match Ew its off v.cells with
    | some m=>Gm place m rest
    | none=>none
   else none
def Te (P:Program)(t:TypeId):Option (List It) :=
 match P.info? t with
 | some i=>i.zero.map fun v=>DV v.cells.toList
 | none=>none
def Vs (T:Operand→Option TV):List Operand→Option (List CT)
 | []=>some []
 | x::r=>match T x,Vs T r with
  | some (.cv c),some l=>some (c::l)
  | _,_=>none
def Q2 (T:Operand→Option TV):List Operand→Option (List (Nat×Nat))
 | []=>some []
 | x::r=>match T x,Q2 T r with
  | some (.cv (.one (.ptr k o))),some l=>some ((k,o)::l)
  | _,_=>none
def Oq (l:List (Nat×Nat)):List CT:=l.map fun p => .one (.ptr p.1 p.2)
def NQ (T:Operand→Option TV):List (Nat×Operand)→Option (List (Nat×CT))
 | []=>some []
 | (i,x)::r=>match T x,NQ T r with
  | some (.cv c),some l=>some ((i,c)::l)
  | _,_=>none
def X2 (T:Operand→Option TV):List Operand→Option (List TV)
 | []=>some []
 | x::r=>match T x,X2 T r with
  | some c,some l=>some (c::l)
  | _,_=>none
def M3:List TV→Option (List Value)
 | []=>some []
 | t::r=>match AbT t,M3 r with
  | some v,some l=>some (v::l)
  | _,_=>none
abbrev ER:=Option (Eff×List Nat×List Ob×List Ob)
def kT (P : Program) (o : Oper) (T : Operand → Option TV) (h : List Ob) : ER :=
 match opK o with
 | none=>none
 | some (k,xs) =>
  match X2 T xs with
  | none=>none
  | some ts =>
   match h with
   | .op k' _ res::r=>if k'.same k then (if res.noPtr then some (.val res,[],[.op k ts res],r) else none) else
    match M3 ts with
    | some vs=>match Hp P (k.run vs) with
     | some v=>(Fb v).map fun t=>(.val t,[],[],h)
     | none=>none
    | none=>none
   | _ =>
    match M3 ts with
    | some vs=>match Hp P (k.run vs) with
     | some v=>(Fb v).map fun t=>(.val t,[],(match h with | .auto::_=>[.auto] | _=>[]),(match h with | .auto::r=>r | _=>h))
     | none=>none
    | none=>none
def rep (n:Nat)(l:List It):List It :=
 match n with
 | 0=>[]
 | n+1=>rep n l++l
def Og (P:Program)(t:TypeId):Option (TypeId×Nat×Nat×List Value) :=
 match P.underlying t with
 | some (.slice e) =>
  match P.info? e with
  | some i=>match i.zero with
   | some z=>if Nat.beq z.cells.size i.size&&Nat.ble 1 i.size&&z.cells.toList.all okCell then some (e,i.size,i.bytes,z.cells.toList) else none
   | none=>none
  | none=>none
 | _=>none
def isN (o:Option Nat)(s:Nat):Bool :=
 match o with
 | some s'=>Nat.beq s s'
 | none=>false
def XZ (P : Program) (o : Oper) (T : Operand → Option TV) (B : Nat → Option Ent) (nm : Nat) (h : List Ob) : ER :=
 match o.op with
 | .move x | .assign x=>(T x).map fun t=>(.val t,[],[],h)
 | .nilCheck x =>
  match T x with
  | some (.cv (.one (.ptr k off)))=>some (.val (.cv (.one (.ptr k off))),[],[],h)
  | some (.cv (.one (.fp l)))=>some (.val (.cv (.one (.fp l))),[],[],h)
  | _=>none
 | .extract x i =>
  match T x with
  | some (.tu l)=>(l[i]?).map fun c=>(.val (.cv c),[],[],h)
  | _=>none
 | .pick c x y =>
  match T c with
  | some (.cv (.one (.b (.lit (.bool true)))))=>(T x).map fun t=>(.val t,[],[],h)
  | some (.cv (.one (.b (.lit (.bool false)))))=>(T y).map fun t=>(.val t,[],[],h)
  | _=>none
 | .fieldAddr s x f =>
  match T x,P.underlying s with
  | some (.cv (.one (.ptr k off))),some (.struct fs) =>
   match fs[f]? with
   | some fd=>match Cd P fd.type with
    | some (n+1)=>some (.val (.cv (.one (.ptr k (off+fd.offset)))),[],[],h)
    | _=>none
   | none=>none
  | some (.cv (.one (.fp l))),some (.struct fs) =>
   match fs[f]? with
   | some fd=>match Cd P fd.type with
    | some (n+1)=>match Cj (l.map It.b) fd.offset with
     | some (a,_)=>some (.val (.cv (.one (.fp (l.drop a.length)))),[],[],h)
     | none=>none
    | _=>none
   | none=>none
  | _,_=>none
 | .field s x f =>
  match T x,P.underlying s with
  | some (.cv (.ag l)),some (.struct fs) =>
   match fs[f]? with
   | some fd=>(Hr P fd.type l fd.offset h).map fun r=>(.val (.cv r.1),[],r.2)
   | none=>none
  | _,_=>none
 | .load t x =>
  match T x with
  | some (.cv (.one (.ptr k off))) =>
   match B k with
   | some e=>(Hr P t e.its off h).map fun r=>(.val (.cv r.1),[k],r.2)
   | none=>none
  | some (.cv (.one (.fp l)))=>(Hr P t (l.map It.b) 0 h).map fun r=>(.val (.cv r.1),[],r.2)
  | _=>kT P o T h
 | .store t x y =>
  match T x,T y with
  | some (.cv (.one (.ptr k off))),some (.cv c) =>
   match B k,Cd P t with
   | some e,some n=>if Nat.beq (Cb c.cells) n&&c.cells.all It.okB then (Zh e.its off c.cells h).map fun m=>(.st k { e with its:=m.1 },[k],m.2) else none
   | _,_=>none
  | _,_=>none
 | .makeFunc fn first caps =>
  match fn,first.toList,Q2 T caps.toList with
  | .func f,[],some l=>some (.val (.cv (.one (.clo f l))),[],[],h)
  | _,_,_=>none
 | .alloc t =>
  match Te P t with
  | some l=>if l.all It.okB then some (.nw (.cv (.one (.ptr nm 0))) nm ⟨t,none,l⟩,[],[],h) else none
  | none=>none
 | .box t x =>
  match T x with
  | some (.cv c)=>if c.cells.all It.okB then some (.nw (.cv (.one (.ptr nm 0))) nm ⟨t,none,c.cells⟩,[],[],h) else none
  | _=>none
 | .build t ps =>
  match P.underlying t,Te P t,NQ T ps.toList with
  | some (.struct fs),some z,some l=>if fs.toList.all (fun f=>(Cd P f.type).isSome) then (Gm (fun i=>(fs[i]?).map fun f=>(f.offset,(Cd P f.type).getD 0)) z l).map fun m=>(.val (.cv (.ag m)),[],[],h) else none
  | _,_,_=>none
 | .buildSlice t len ps =>
  match h with
  | .op (.bs _ _ _) _ _::_=>kT P o T h
  | _ =>
   match Og P t,NQ T ps.toList with
   | some (e,size,_,z),some l =>
    if Nat.ble (len*size) 16777216 then
     (Gm (fun i=>some (i*size,size)) (rep len (DV z)) l).map fun m=>(.nw (.cv (.one (.sl nm))) nm ⟨e,some (size,len),m⟩,[],[],h)
    else none
   | _,_=>none
 | .makeSlice t x y =>
  match Og P t,T x,T y,h with
  | some (e,size,bytes,z),some (.cv (.one (.b (.lit (.int k1 z1))))),some (.cv (.one (.b (.lit (.int k2 z2))))),.mk _ n _ :: .mk _ _ _::r =>
   some (.nw (.cv (.one (.sl nm))) nm ⟨e,some (size,n),rep n (DV z)⟩,[],[.mk z1 n bytes,.mk z2 n bytes],r)
  | _,_,_,_=>none
 | .indexAddr t x y =>
  match T x with
  | some (.cv (.one (.sl k))) =>
   match T y,B k,h with
   | some (.cv (.one (.b (.lit (.int kd z))))),some e,.ix _ i _::r =>
    match e.sl,P.underlying t with
    | some (s,n),some (.slice el)=>if Nat.beq el e.T&&isN (Cd P el) s then some (.val (.cv (.one (.ptr k (i*s)))),[k],[.ix z i n],r) else none
    | _,_=>none
   | _,_,_=>none
  | _=>kT P o T h
 | .call c =>
  match c.callee with
  | .value (.func f) =>
   match K3 P f,Vs T c.args.toList,h with
   | true,some l,.sp _ _ res::r=>if l.all CT.noPtr&&res.noPtr then some (.val res,[],[.sp f l res],r) else none
   | true,some l,.spn _ _ rest e::r=>if l.all CT.noPtr&&ON rest then some (.nw (OO nm rest) nm e,[],[.spn f l rest e],r) else none
   | true,some l,.spm _ ks _ _ outs res::r =>
    match Lt B ks ks 0 with
    | some ins =>
     if l.all (CT.allN (inN ks))&&K5 ks&&Nat.ble ks.length 4&&K0 ks.length outs&&res.allN (Fz ks.length) then
      some (.cm (res.mapN (DW ks nm)) nm ks (Lc (DW ks nm) outs),ks,[.spm f ks ins (l.map (CT.mapN (FY ks))) outs res],r)
     else none
    | none=>none
   | _,_,_=>none
  | .value (.tmp q) =>
   match T (.tmp q),Vs T c.args.toList,h with
   | some (.cv (.one (.clo f caps))),some l0,.spm _ ks _ _ outs res::r =>
    match Lt B ks ks 0 with
    | some ins =>
     if K3 P f&&(l0++Oq caps).all (CT.allN (inN ks))&&K5 ks&&Nat.ble ks.length 4&&K0 ks.length outs&&res.allN (Fz ks.length) then
      some (.cm (res.mapN (DW ks nm)) nm ks (Lc (DW ks nm) outs),ks,[.spm f ks ins ((l0++Oq caps).map (CT.mapN (FY ks))) outs res],r)
     else none
    | none=>none
   | _,_,_=>none
  | .builtin .len =>
   match c.args.toList,c.argTypes.toList with
   | [x],[t] =>
    match T x,P.underlying t with
    | some (.cv (.one (.sl k))),some (.slice _) =>
     match B k with
     | some e=>match e.sl with
      | some (_,n)=>some (.val (BF (.int .i64 (n:Int))),[k],[],h)
      | none=>none
     | none=>none
    | _,_=>kT P o T h
   | _,_=>none
  | .builtin .append =>
   match h with
   | .op (.app _ _) _ _::_=>kT P o T h
   | _ =>
    match c.args.toList,c.argTypes.toList with
    | [s, x], [t, t'] =>
     if Nat.beq t t' then
      match Og P t with
      | some (e, size, bytes, z) =>
       match T s with
       | some (.cv (.one (.b (.lit (.slice none 0 0))))) =>
        match T x with
        | some (.cv (.one (.sl j))) =>
         match B j,h with
         | some e2,.ap _ _ _::r=>match e2.sl with
          | some (s2,m)=>if Nat.beq s2 size then some (.nw (.cv (.one (.sl nm))) nm ⟨e,some (size,m),e2.its⟩,[j],[.ap 0 m bytes],r) else none
          | none=>none
         | _,_=>none
        | some (.cv (.one (.b (.it i)))) =>
         match h with
         | .src _ _ m y :: .ap _ _ _::r=>some (.nw (.cv (.one (.sl nm))) nm ⟨e,some (size,m),y.map It.b⟩,[],[.src size i m y,.ap 0 m bytes],r)
         | _=>none
        | _=>none
       | some (.cv (.one (.sl k))) =>
        match B k with
        | some e1 => match e1.sl with
         | some (s1,n) =>
          if Nat.beq s1 size&&Nat.beq e e1.T then
           match T x with
           | some (.cv (.one (.sl j))) =>
            match B j,h with
            | some e2,.ap _ _ _::r=>match e2.sl with
             | some (s2,m)=>if Nat.beq s2 size && !Nat.beq j k then some (.ap (.cv (.one (.sl nm))) k nm ⟨e,some (size,n+m),e1.its++e2.its⟩,[k,j],[.ap n m bytes],r) else none
             | none=>none
            | _,_=>none
           | some (.cv (.one (.b (.it i)))) =>
            match h with
            | .src _ _ m y :: .ap _ _ _::r=>some (.ap (.cv (.one (.sl nm))) k nm ⟨e,some (size,n+m),e1.its++y.map It.b⟩,[k],[.src size i m y,.ap n m bytes],r)
            | _=>none
           | _=>none
          else none
         | none=>none
        | none=>none
       | _=>none
      | none=>none
     else none
    | _,_=>none
  | _=>kT P o T h
 | _=>kT P o T h
section
variable {P:Program}{N:Nat→Prop}{w:World}{g g':Gh}
theorem It.noPtr_sem {x:It}{l:List Value}(hn:x.noPtr=true)(h:x.sem N w g l):x.sem N w g' l:=by
 cases x with
 | b x=>exact h
 | fp x=>exact h
 | ptr k off=>cases hn
 | sl k=>cases hn
 | clo f p=>cases hn
theorem CI : ∀ {xs:List It} {l:List Value},xs.all It.noPtr=true→Bt N w g xs l→Bt N w g' xs l
 | [],_,_,h=>h
 | x::xs,_,hn,⟨l1,l2,e,h1,h2⟩=>by
  simp only[List.all_cons,Bool.and_eq_true] at hn;exact ⟨l1,l2,e,It.noPtr_sem hn.1 h1,CI hn.2 h2⟩
theorem CT.noPtr_sem {c:CT}{v:Value}(hn:c.noPtr=true)(h:c.sem N w g v):c.sem N w g' v:=by
 cases c with
 | one x=>exact It.noPtr_sem (by simpa [CT.noPtr,CT.cells] using hn) h
 | ag l=>obtain ⟨vs,e,h⟩:=h;exact ⟨vs,e,CI hn h⟩
theorem DH : ∀ {cs:List CT} {vs:List Value},cs.all CT.noPtr=true→all2 (CT.sem N w g) cs vs→all2 (CT.sem N w g') cs vs
 | [],_,_,h=>h
 | c::cs,_,hn,⟨v,l,e,h1,h2⟩=>by
  simp only[List.all_cons,Bool.and_eq_true] at hn;exact ⟨v,l,e,CT.noPtr_sem hn.1 h1,DH hn.2 h2⟩
theorem TV.noPtr_sem {t:TV}{v:Value}(hn:t.noPtr=true)(h:t.sem N w g v):t.sem N w g' v:=by
 cases t with
 | cv c=>exact CT.noPtr_sem hn h
 | tu l=>obtain ⟨vs,e,h⟩:=h;exact ⟨vs,e,DH hn h⟩
theorem Ft : ∀ (l:List Value),Bt N w g (DV l) l
 | []=>rfl
 | x::l=>⟨[x],l,rfl,rfl,Ft l⟩
theorem GF {v:Value}{t:TV}(h:Fb v=some t):t.sem N w g v:=by
 unfold Fb at h;split at h
 ·rename_i cs
  injection h with h;subst h;exact ⟨cs.toList,by simp,Ft _⟩
 ·cases h
 ·injection h with h
  subst h;exact (rfl:[v]=[v])
theorem QP : ∀ {l:List It} {vs us:List Value},Sx l=some vs→Bt N w g l us→us=vs
 | [],vs,us,h,hs=>by
  simp only[Sx,Option.some.injEq] at h;subst h;exact hs
 | .b (.lit v)::r,vs,us,h,⟨l1,l2,e,h1,h2⟩=>by
  simp only[Sx] at h;cases hr:Sx r with
  | none=>rw[hr] at h;cases h
  | some q =>
   rw[hr] at h;injection h with h;subst h;rw[e,show l1=[v] from h1,QP hr h2]
   rfl
 | .b (.it _)::_,_,_,h,_=>by cases h
 | .ptr _ _::_,_,_,h,_=>by cases h
 | .fp _::_,_,_,h,_=>by cases h
 | .sl _::_,_,_,h,_=>by cases h
 | .clo _ _::_,_,_,h,_=>by cases h
theorem X5 {t:TV}{v u:Value}(h:AbT t=some v)(hs:t.sem N w g u):u=v:=by
 unfold AbT at h;split at h
 ·injection h with h
  subst h;have:[u]=[_]:=hs;injection this
 ·rename_i l
  cases hl:Sx l with
  | none=>rw[hl] at h;cases h
  | some q =>
   rw[hl] at h;injection h with h;subst h;obtain ⟨vs,e,hv⟩:=hs;rw[e,QP hl hv]
 ·cases h
theorem NS : ∀ {ts:List TV} {vs us:List Value},M3 ts=some vs→Lp (TV.sem N w g) ts us→us=vs
 | [],vs,us,h,hs=>by simp only[M3,Option.some.injEq] at h;subst h;exact hs
 | t::ts,vs,us,h,⟨v,l,e,h1,h2⟩=>by
  simp only[M3] at h;split at h
  ·rename_i u us' h3 h4
   injection h with h;subst h;rw[e,X5 h3 h1,NS h4 h2]
  ·cases h
theorem NK {T:Operand→Option TV}{ρ:Operand→Value} : ∀ {l:List Operand} {ps:List (Nat×Nat)},(∀ x∈l,∀ t,T x=some t→t.sem N w g (ρ x))→Q2 T l=some ps→Fd g ps (l.map ρ)
 | [],ps,_,h=>by
  simp only[Q2,Option.some.injEq] at h;subst h
  rfl
 | x::r,ps,hT,h=>by
  simp only[Q2] at h;split at h
  ·rename_i k o l h1 h2
   injection h with h;subst h;obtain ⟨b,q1,q2⟩:=hT x (by simp) _ h1
   injection q2 with q2;exact ⟨b,_,q1,by rw[List.map_cons,q2],NK (fun y hy=>hT y (by simp[hy])) h2⟩
  ·cases h
theorem O0 : ∀ {ps:List (Nat×Nat)} {cs:List Value},Fd g ps cs→all2 (CT.sem N w g) (Oq ps) cs
 | [],_,h=>h
 | p::r,_,⟨b,t,h1,h2,h3⟩=>⟨_,t,h2,⟨b,h1,rfl⟩,O0 h3⟩
theorem Lo {R:CT→Value→Prop} : ∀ {a b:List CT} {l m:List Value},all2 R a l→all2 R b m→all2 R (a++b) (l++m)
 | [],b,l,m,h,h'=>by rw[show l=[] from h];exact h'
 | c::a,b,_,m,⟨v,l,e,h1,h2⟩,h'=>⟨v,l++m,by rw[e];rfl,h1,Lo h2 h'⟩
theorem G8 {T:Operand→Option TV}{ρ:Operand→Value} : ∀ {l:List Operand} {cs:List CT},(∀ x∈l,∀ t,T x=some t→t.sem N w g (ρ x))→Vs T l=some cs→all2 (CT.sem N w g) cs (l.map ρ)
 | [],cs,_,h=>by
  simp only[Vs,Option.some.injEq] at h;subst h
  rfl
 | x::r,cs,hT,h=>by
  simp only[Vs] at h;split at h
  ·rename_i c l h1 h2
   injection h with h;subst h;exact ⟨ρ x,r.map ρ,rfl,hT x (by simp) _ h1,G8 (fun y hy=>hT y (by simp[hy])) h2⟩
  ·cases h
theorem QI {T:Operand→Option TV}{ρ:Operand→Value} : ∀ {l:List Operand} {cs:List TV},(∀ x∈l,∀ t,T x=some t→t.sem N w g (ρ x))→X2 T l=some cs→Lp (TV.sem N w g) cs (l.map ρ)
 | [],cs,_,h=>by
  simp only[X2,Option.some.injEq] at h;subst h
  rfl
 | x::r,cs,hT,h=>by
  simp only[X2] at h;split at h
  ·rename_i c l h1 h2
   injection h with h;subst h;exact ⟨ρ x,r.map ρ,rfl,hT x (by simp) _ h1,QI (fun y hy=>hT y (by simp[hy])) h2⟩
  ·cases h
def YX (R:CT→Value→Prop):List (Nat×CT)→List (Nat×Value)→Prop
 | [],vs=>vs=[]
 | c::cs,vs => ∃ v l,vs=(c.1,v)::l∧R c.2 v∧YX R cs l
theorem K9 {T:Operand→Option TV}{ρ:Operand→Value} : ∀ {l:List (Nat×Operand)} {cs:List (Nat×CT)},(∀ x∈l,∀ t,T x.2=some t→t.sem N w g (ρ x.2))→NQ T l=some cs→YX (CT.sem N w g) cs (l.map fun x=>(x.1,ρ x.2))
 | [],cs,_,h=>by
  simp only[NQ,Option.some.injEq] at h;subst h
  rfl
 | (i,x)::r,cs,hT,h=>by
  simp only[NQ] at h;split at h
  ·rename_i c l h1 h2
   injection h with h;subst h;exact ⟨ρ x,_,rfl,hT (i,x) (by simp) _ h1,K9 (fun y hy=>hT y (by simp[hy])) h2⟩
  ·cases h
def Owed (P:Program)(I:WInv)(os:List Ob):Prop := ∀ o∈os,o.prop P I
theorem Owed.app {I:WInv}{a b:List Ob}(h:Owed P I (a++b)):Owed P I a∧Owed P I b:=⟨fun o ho=>h o (by simp[ho]),fun o ho=>h o (by simp[ho])⟩
theorem Tn {I:WInv}{l:List It}{off n:Nat}{h:List Ob}{m:List It}{os r:List Ob}(hh:Wo l off n h=some (m,os,r))(ho:Owed P I os):Fs l off n=some m:=by
 unfold Wo at hh;split at hh
 ·simp only[Option.some.injEq,Prod.mk.injEq] at hh
  obtain ⟨rfl,rfl,rfl⟩:=hh;exact ho _ (List.mem_singleton.2 rfl)
 ·cases hs:Fs l off n with
  | none=>rw[hs] at hh;cases hh
  | some q=>rw[hs] at hh;simp only[Option.map_some,Option.some.injEq,Prod.mk.injEq] at hh;rw[hh.1]
theorem Zg {I:WInv}{l:List It}{off:Nat}{new:List It}{h:List Ob}{m:List It}{os r:List Ob}(hh:Zh l off new h=some (m,os,r))(ho:Owed P I os):Ew l off new=some m:=by
 unfold Zh at hh;split at hh
 ·simp only[Option.some.injEq,Prod.mk.injEq] at hh
  obtain ⟨rfl,rfl,rfl⟩:=hh;exact ho _ (List.mem_singleton.2 rfl)
 ·cases hs:Ew l off new with
  | none=>rw[hs] at hh;cases hh
  | some q=>rw[hs] at hh;simp only[Option.map_some,Option.some.injEq,Prod.mk.injEq] at hh;rw[hh.1]
theorem FQ {I:WInv}{t:TypeId}{its:List It}{off:Nat}{c:CT}{h os r:List Ob}(hp:Hr P t its off h=some (c,os,r))(ho:Owed P I os){cs:Array Value}{m:Nat}(hs:Bt N w g its (cs.toList.take m)) :
  ∃ b n,VS P t=some b∧Cd P t=some n∧(b=false→n=1)∧off+n≤cs.size∧c.sem N w g (if b then .agg (cs.extract off (off+n)) else cs.getD off undef):=by
 unfold Hr at hp;split at hp
 ·rename_i n ha hn
  cases hsub:Wo its off n h with
  | none=>rw[hsub] at hp;cases hp
  | some q =>
   rw[hsub] at hp;simp only[Option.map_some,Option.some.injEq,Prod.mk.injEq] at hp;obtain ⟨rfl,hq⟩:=hp;obtain ⟨q1,q2,q3⟩:=q;simp only[Prod.mk.injEq] at hq;obtain ⟨rfl,rfl⟩:=hq;obtain ⟨h1,h2⟩:=NA (Tn hsub ho) hs;simp only[List.length_take,Array.length_toList] at h2;refine ⟨true,n,ha,hn,by simp,by omega,_,?_,h1⟩
   have e:cs.extract off (off+n)=(((cs.toList.take m).drop off).take n).toArray:=by
    apply Array.ext';simp only[Array.toList_extract,List.extract_eq_take_drop];rw[List.drop_take,List.take_take,Nat.min_eq_left (by omega)]
    congr 1;omega
   rw[if_pos rfl,e]
 ·rename_i ha hn
  split at hp
  ·rename_i x q hsub
   simp only[Option.some.injEq,Prod.mk.injEq] at hp;obtain ⟨rfl,hq⟩:=hp;obtain ⟨q2,q3⟩:=q;simp only[Prod.mk.injEq] at hq;obtain ⟨rfl,rfl⟩:=hq;obtain ⟨h1,h2⟩:=NA (Tn hsub ho) hs;simp only[List.length_take,Array.length_toList] at h2;refine ⟨false,1,ha,hn,by simp,by omega,?_⟩
   obtain ⟨l1,l2,e,hx,hl2⟩:=h1;rw[show l2=[] from hl2,List.append_nil] at e;rw[←e] at hx;have e2:(List.drop off (cs.toList.take m)).take 1=[cs.getD off undef]:=by
    have hlt:off < cs.size:=by omega
    rw[List.drop_take,List.take_take,Nat.min_eq_left (by omega),List.drop_eq_getElem_cons (by simpa using hlt)]
    simp[hlt]
   rw[e2] at hx;exact hx
  ·cases hp
 ·cases hp
theorem ME {place : Nat → Option (Nat × Nat)} : ∀ (l : List (Nat × CT)) (its out : List It) (vs : List (Nat × Value)) (cs : Array Value), Gm place its l = some out → Bt N w g its cs.toList → YX (CT.sem N w g) l vs → (∀ v ∈ cs.toList, okCell v = true) →
  ∃ cs',Instr.fill place cs vs=some cs'∧Bt N w g out cs'.toList∧(∀ v∈cs'.toList,okCell v=true)∧cs'.size=cs.size
 | [],its,out,vs,cs,h,hs,hv,hok=>by
  simp only[Gm,Option.some.injEq] at h;subst h;rw[show vs=[] from hv];exact ⟨cs,rfl,hs,hok,rfl⟩
 | (i, c) :: l, its, out, vs, cs, h, hs, ⟨v, l', e, h1, h2⟩, hok => by
  simp only[Gm] at h;split at h
  ·cases h
  ·rename_i off size hp
   split at h
   ·rename_i hc
    simp only[Bool.and_eq_true] at hc;obtain ⟨hc1,hc2⟩:=hc;have hw:Cb c.cells=size:=Nat.eq_of_beq_eq_true hc1;split at h
    ·rename_i m hm
     obtain ⟨us,hu1,hu2⟩:=CT.cells_sem h1 hc2;obtain ⟨k1,k2⟩:=Ko hm hs hu2;have hul:us.length=Cb c.cells:=Fu hu2;simp at k2;have hf:=Od us cs off 0 (by omega)
     simp at hf;have hok' : ∀ v∈(cs.toList.take off++us++cs.toList.drop (off+us.length)).toArray.toList,okCell v=true:=by
      intro v hv;simp only[List.mem_append] at hv;rcases hv with (hv | hv) | hv
      ·exact hok v (List.mem_of_mem_take hv)
      ·exact D9 hu2 hc2 v hv
      ·exact hok v (List.mem_of_mem_drop hv)
     obtain ⟨cs',r1,r2,r3,r4⟩:=ME l m out l' (cs.toList.take off++us++cs.toList.drop (off+us.length)).toArray h (by simpa using k1) h2 hok'
     refine ⟨cs',?_,r2,r3,?_⟩
     ·rw[e]
      simp only[Instr.fill,hp,hu1,List.size_toArray];rw[if_neg (by simp;omega)]
      rw[←r1];congr 1;simp[hf]
     ·rw[r4];simp;omega
    ·cases h
   ·cases h
theorem MF {place : Nat → Option (Nat × Nat)} : ∀ (l : List (Nat × CT)) (its out : List It) (vs : List (Nat × Value)) (cs : Array Value), Gm place its l = some out → Bt N w g its cs.toList → YX (CT.sem N w g) l vs →
  ∃ cs',Instr.fill place cs vs=some cs'∧Bt N w g out cs'.toList
 | [],its,out,vs,cs,h,hs,hv=>by
  simp only[Gm,Option.some.injEq] at h;subst h;rw[show vs=[] from hv];exact ⟨cs,rfl,hs⟩
 | (i,c)::l,its,out,vs,cs,h,hs,⟨v,l',e,h1,h2⟩=>by
  simp only[Gm] at h;split at h
  ·cases h
  ·rename_i off size hp
   split at h
   ·rename_i hc
    simp only[Bool.and_eq_true] at hc;obtain ⟨hc1,hc2⟩:=hc;have hw:Cb c.cells=size:=Nat.eq_of_beq_eq_true hc1;split at h
    ·rename_i m hm
     obtain ⟨us,hu1,hu2⟩:=CT.cells_sem h1 hc2;obtain ⟨k1,k2⟩:=Ko hm hs hu2;have hul:us.length=Cb c.cells:=Fu hu2;simp at k2;have hf:=Od us cs off 0 (by omega)
     simp at hf;obtain ⟨cs',r1,r2⟩:=MF l m out l' (cs.toList.take off++us++cs.toList.drop (off+us.length)).toArray h (by simpa using k1) h2
     refine ⟨cs',?_,r2⟩;rw[e];simp only[Instr.fill,hp,hu1,List.size_toArray];rw[if_neg (by simp;omega)]
     rw[←r1];congr 1;simp[hf]
    ·cases h
   ·cases h
theorem TF {o:Oper}{k:OpK}{xs:List Operand}(h:opK o=some (k,xs)){ρ:Operand→Value}{w w':World}{v:Value}(hr:(k.run (xs.map ρ)).run P w = .ok v w'):(execOp ρ o).run P w = .ok (.value v) w':=by
 have hg : ∀ (op:BinOp) (t:TypeId) (x y:Operand) (a b:Value),((OpK.bin op t).run [a,b]).run P w = .ok v w'→((do eqGuard op t x y a b;binOp op t a b:Sem Value)).run P w = .ok v w':=by
  intro op t x y a b hh;simp only[OpK.run] at hh;split at hh
  ·simp[stuck,Sem.run] at hh
  ·rename_i hne
   have he:eqGuard op t x y a b=eqGuard op t (.tmp 0) (.tmp 1) a b:=by
    unfold eqGuard;cases a <;> cases b <;> first | rfl | exact (hne rfl rfl).elim
   rw[he];exact hh
 have hm : ∀ (c:Call),(c.args.toList.map ρ).toArray=c.args.map ρ:=fun c=>Array.ext' (by simp)
 unfold opK at h;split at h;all_goals (try (simp only[Option.some.injEq,Prod.mk.injEq] at h;obtain ⟨rfl,rfl⟩:=h))
 ·rename_i op t x y yt ho
  have:=hg op t x y _ _ hr;simp only[execOp,ho,Sem.run_bind];simp only[Sem.run_bind] at this;rw[this]
  rfl
 ·rename_i ho
  simp only[execOp,ho,Sem.run_bind];simp only[OpK.run,List.map_cons,List.map_nil] at hr;rw[hr]
  rfl
 ·rename_i ho
  simp only[execOp,ho,Sem.run_bind];simp only[OpK.run,List.map_cons,List.map_nil] at hr;rw[hr]
  rfl
 ·rename_i ho
  simp only[execOp,ho,Sem.run_bind];simp only[OpK.run,List.map_cons,List.map_nil] at hr;rw[hr]
  rfl
 ·rename_i ho
  simp only[execOp,ho,Sem.run_bind];simp only[OpK.run,List.map_cons,List.map_nil] at hr;rw[hr]
  rfl
 ·rename_i ho
  simp only[execOp,ho,Sem.run_bind];simp only[OpK.run,List.map_cons,List.map_nil] at hr;rw[hr]
  rfl
 ·rename_i t n ps ho
  have e:(List.zip (ps.toList.map (·.1)) ((ps.toList.map (·.2)).map ρ)).toArray=ps.map fun x=>(x.1,ρ x.2):=by
   apply Array.ext';simp only[Array.toList_map];induction ps.toList with
   | nil=>rfl
   | cons p l ih=>rw[List.map_cons,List.map_cons,List.map_cons,List.map_cons,List.zip_cons_cons,ih]
  simp only[OpK.run,e] at hr;simp only[execOp,ho,Sem.run_bind];rw[hr]
  rfl
 ·rename_i ho
  simp only[execOp,ho,Sem.run_bind,Option.map];simp only[OpK.run,List.map_cons,List.map_nil] at hr;rw[hr]
  rfl
 ·rename_i ho
  simp only[execOp,ho,Sem.run_bind,Option.map];simp only[OpK.run,List.map_cons,List.map_nil] at hr;rw[hr]
  rfl
 ·rename_i ho
  simp only[execOp,ho,Sem.run_bind,Option.map];simp only[OpK.run,List.map_cons,List.map_nil] at hr;rw[hr]
  rfl
 ·rename_i ho
  simp only[execOp,ho,Sem.run_bind,Option.map];simp only[OpK.run,List.map_cons,List.map_nil] at hr;rw[hr]
  rfl
 ·rename_i ho
  simp only[execOp,ho,Sem.run_bind,Option.map];simp only[OpK.run,List.map_cons,List.map_nil] at hr;rw[hr]
  rfl
 ·rename_i c ho
  split at h;all_goals (try (cases h;done))
  all_goals
   rename_i hc;simp only[Option.some.injEq,Prod.mk.injEq] at h;obtain ⟨rfl,rfl⟩:=h;simp only[OpK.run,hm] at hr;simp only[execOp,ho,resolve,hc,invoke,builtin,Sem.run_bind,Sem.run_pure,Result.andThen_ok,hr]
 ·cases h
end
end Go.Proofs.YtdgbealknnmkoaaGreatDoor
