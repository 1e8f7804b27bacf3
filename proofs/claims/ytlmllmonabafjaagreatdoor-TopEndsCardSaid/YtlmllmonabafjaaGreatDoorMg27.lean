/- Contracts of the functions that the law reaches, and plain laws; no conditions but those written at each. -/
import Derived.Test.YtlmllmonabafjaaGreatDoorMg26
namespace Go.Proofs.YtlmllmonabafjaaGreatDoor
open Go.Value renaming bool->μ,slice->δ,pointer->π,agg->θ
open Go.IntKind renaming i64->ι,u8->υ,u16->φ,u32->ω,i32->χ,u64->ψ
open _root_.Go.Proofs.Tryz
set_option linter.unusedSimpArgs false
set_option maxHeartbeats 8000000
set_option linter.unusedVariables false
open Go.RowKit
set_option maxRecDepth 100000
section
variable {P:Program}
theorem NJ (w:World) (base:Nat) (t u H e:TypeId) (i:TypeInfo) (N:P.underlying t=some (.slice e)) (O:P.underlying u=some .string) (hi:P.info? e=some i) (ab:i.zero=some (υ 0))
  (J:i.size=1) (Y:i.bytes=1) (v:Value) (n:Nat) (xs:List Value) (G:w.ownsRow base e 1 v n xs) (s:ByteArray)
  (U:n+s.size<=maxLen) (ac:n+s.size<=140737488355328) (ag:base<=w.heap.size):
  ∃v' w',(Builtin.append_ #[t,u] H #[v,.string s]).run P w= .ok v' w'/\w'.ownsRow base e 1 v' (n+s.size) (xs++Lib.strCells s)/\w.grownBy w' v.ownBlock/\(∀g,v'.ownBlock=some g->v.ownBlock=some g∨w.heap.size<=g):=by
 obtain⟨v',w',I,ae,af,_⟩:=Lib.run_append_own_string (P:=P) w base t u H e i N O hi ab J Y v n xs G s U ac ag;refine⟨v',w',I,ae,af,λg aa=> ?_⟩;rcases id G.2 with ⟨rfl,ad⟩ | ⟨b,cap,cur,rfl,ak,ai,an,al,ah,ao⟩
 ·subst ad;obtain rfl:xs=[]:=List.eq_nil_of_length_eq_zero (by simpa using G.1);obtain⟨v2,w2,d,aj,_⟩:=Lib.run_append_own_string (P:=P) w w.heap.size t u H e i N O hi ab J Y _ 0 [] (World.ownsRow_nil w _ e 1) s U ac (Nat.le_refl _);rw[I] at d;injection d with e1 e2
  subst e1;exact Or.inr (jS aj aa)
 ·by_cases hroom:n+s.size<=cap
  ·have am:cur.size=cap:=by simpa using ah
   have d:=Lib.run_append_room_string (P:=P) w t u H e i N O hi J b n cap cur ai s hroom τ;rw[I] at d;injection d with e1 e2
   subst e1;exact Or.inl aa
  ·have d:=Lib.run_append_grow_string (P:=P) w t u H e i (υ 0) N O hi ab ⟨b,0,none⟩ n cap xs (by rw[J];simpa using G.1) (G.cells (g:=b) rfl) s τ (by simp only[maxLen] at U;omega) (by rw[Y];exact growslice_fits τ τ);rw[I] at d;injection d with e1 e2
   subst e1;refine Or.inr (Nat.le_of_eq ?_);injection aa
theorem NI {w:World} {ops:Array Oper} {rest:List Oper} {o:Oper} {a:Act} {Q:Exit->Act->World->Prop} (aa:o.guard=none) (d x:Operand) (t u:TypeId)
  (ab:o.op= .call {callee:= .builtin .append,args:= #[d,x],argTypes:= #[t,u]})
  (base:Nat) (e:TypeId) (i:TypeInfo) (ag:P.underlying t=some (.slice e)) (ah:P.underlying u=some .string) (hi:P.info? e=some i) (aj:i.zero=some (υ 0)) (af:i.size=1) (U:i.bytes=1)
  (v:Value) (n:Nat) (xs:List Value) (ae:a.eval d=v) (ac:w.ownsRow base e 1 v n xs) (s:ByteArray) (ai:a.eval x= .string s)
  (J:n+s.size<=maxLen) (Y:n+s.size<=140737488355328) (O:base<=w.heap.size)
  (h: ∀v' w',w'.ownsRow base e 1 v' (n+s.size) (xs++Lib.strCells s)->w.grownBy w' v.ownBlock->(∀g,v'.ownBlock=some g->v.ownBlock=some g∨w.heap.size<=g)->wpList P ops Q rest (a.put o.dst v') w'):wpList P ops Q (o::rest) a w:=by
 refine wpList_plain aa λK N=> ?_
 obtain⟨v',w',ad,G,H,I⟩:=NJ (P:=P) w base t u o.type e i ag ah hi aj af U v n xs ac s J Y O;unfold Oper.wp execOp;simp only[ab,resolve,invoke,builtin,Sem.run_bind,Sem.run_pure,Result.andThen_ok,List.map_toArray,List.map_cons,List.map_nil,ae,ai,ad];exact N _ _ (h v' w' G H I)
end
def Bd (B:Nat) (F:List Nat) (w:World) (b:Nat) (l:List UInt8):Prop:=b∈F/\B<=b/\ ∃p v,(p= .pointer none∨p= .pointer (some ⟨b,0,none⟩))/\w.heap[b]? =some (.cells #[p,v] 212 (0,0))/\w.ownsRow B 5 1 v l.length (Lib.byteCells l)/\v.ownBlock≠some b/\ ∀g,v.ownBlock=some g->g∈F
theorem Bd.is {B:Nat} {F:List Nat} {w:World} {b:Nat} {l:List UInt8} (h:Bd B F w b l):Lib.IsBuilder 212 5 B b (Lib.byteCells l) w:=by
 obtain⟨_,d,p,v,J,G,I,H,_⟩:=h;rcases J with rfl | rfl
 ·exact Or.inl ⟨d,v,G,by rw[Lib.byteCells_length];exact I,H⟩
 ·exact Or.inr ⟨d,v,G,by rw[Lib.byteCells_length];exact I,H⟩
theorem Bd.more {B:Nat} {F:List Nat} {w w':World} {b:Nat} {l:List UInt8} (h:Bd B F w b l) (t:qw F w w'):Bd B F w' b l:=by
 obtain⟨hF,J,p,v,U,d,O,N,G⟩:=h;refine⟨hF,J,p,v,U,by rw[t.2 b hF];exact d, ?_,N,G⟩;obtain⟨H,I⟩:=O;refine⟨H, ?_⟩;rcases I with h | ⟨g,cap,cur,e1,d,hgg,rest⟩
 ·exact Or.inl h
 ·exact Or.inr ⟨g,cap,cur,e1,d,by rw[t.2 g (G g (by rw[e1];rfl))];exact hgg,rest⟩
theorem Oe {B:Nat} {F:List Nat} {w:World} {b:Nat} {l:List UInt8} (h:Bd B F w b l):
  Calls prog 157 #[γ b] w λe w'=>e= .returned (.tuple #[])/\(∃v,w'.heap[b]? =some (.cells #[γ b,v] 212 (0,0))/\w'.ownsRow B 5 1 v l.length (Lib.byteCells l)/\v.ownBlock≠some b/\ ∀g,v.ownBlock=some g->g∈F)/\qg (λx=>x∈F) w w':=by
 have d:=h.is;obtain⟨hF,O,p,v,U,G,J,H,I⟩:=h;rcases d with d | d
 ·refine(Any.Builder_copyCheck_fresh {NQ with} bldX.toX72 b w d.cell0 d.shape d.frozen0).mono ?_;rintro e w' ⟨rfl,rfl⟩;refine⟨rfl,⟨v,by simp[World.setCell,Array.getElem?_modify,G], ?_,H,I⟩,(qg.refl _ _).set hF _⟩;exact J.kept (row:=some b) ⟨rfl,rfl,rfl,by simp[World.setCell],λk _ N=>Below.heap_setCell _ _ _ _ (λe=>N (by simp[e]))⟩ (Or.inr H)
 ·refine(Any.Builder_copyCheck_used {NQ with} bldX.toX72 b w d.cell0).mono ?_;rintro e w' ⟨rfl,rfl⟩;have e0:=d.cell0;rw[Lib.cell_of_heap G] at e0;injection e0 with e0
  subst e0;exact⟨rfl,⟨v,G,J,H,I⟩,qg.refl _ _⟩
theorem OF {B b:Nat} {F:List Nat} {w:World} {v v':Value} {l:List UInt8} (hF:b∈F) (I:B<=b) (d:w.heap[b]? =some (.cells #[γ b,v] 212 (0,0))) (H:w.ownsRow B 5 1 v' l.length (Lib.byteCells l)) (J: ∀g,v'.ownBlock=some g->g∈F):
  Bd B F (w.setCell ⟨b,1,none⟩ v') b l:=by
 have G:=Lib.ownBlock_ne H d bldX.neB5;exact⟨hF,I,_,v',Or.inr rfl,by simp[World.setCell,Array.getElem?_modify,d],H.kept (row:=some b) ⟨rfl,rfl,rfl,by simp[World.setCell],λk _ N=>Below.heap_setCell _ _ _ _ (λe=>N (by simp[e]))⟩ (Or.inr G),G,J⟩
theorem RU {B:Nat} {F:List Nat} {w:World} {b:Nat} {l:List UInt8} (h:Bd B F w b l) (s:ByteArray) (ax:l.length+s.size<=100000):
  Calls prog 100 #[γ b,.string s] w λe w'=>e= .returned (.tuple #[ι s.size,.nilIface])/\qg (λx=>x∈F) w w'/\ ∃g,(g∈F∨w.heap.size<=g/\g<w'.heap.size)/\Bd B (g::F) w' b (l++s.data.toList):=by
 obtain⟨aq,hi,an,ao,ap⟩:=info_parts (P:=prog) (e:=5) (z:= υ 0) (size:=1) (bytes:=1) ξ;have hF:=h.1;have af:=h.2.1;have ay:b<w.heap.size:=by obtain⟨_,_,_,_,_,ah,_⟩:=h;exact lt_of_block ah
 have ae:=κ (Oe h);clear h
 go_enter func100,ntmps100
 go_wp2_with (first | (go_at_call 157;(go_call ae.o as e w1 ⟨rfl,⟨v,H,aa,am,U⟩,N⟩;obtain⟨I,J,rfl⟩:=xl aa;have az:w.heap.size<=w1.heap.size:=N.size;have ar:w1.cell? ⟨b,0,none⟩=some (π (some ⟨b,0,none⟩)):=(by rw[Lib.cell_of_heap H];rfl);have c1:w1.cell? ⟨b,1,none⟩=some (δ I l.length J):=(by rw[Lib.cell_of_heap H];rfl))) | (at_builtin;refine NI rfl _ _ 35 9 rfl B 5 aq underlying35 underlying9 hi an ao ap _ _ _ rfl aa s rfl ?c3 ?c4 ?c5 ?_))
 case c3=>unfold maxLen;omega
 case c4=>omega
 case c5=>omega
 intro v' w2 ab Y ag;have al:b<w1.heap.size:=by omega
 have G:w2.heap[b]? =some (.cells #[γ b,δ I l.length J] 212 (0,0)):=by
  rw[Y.block b al (λe=>am e.symm)];exact H
 have au:w2.cell? ⟨b,0,none⟩=some (π (some ⟨b,0,none⟩)):=by rw[Lib.cell_of_heap G];rfl
 have av:w2.cell? ⟨b,1,none⟩=some (δ I l.length J):=by rw[Lib.cell_of_heap G];rfl
 have aw:w2.frozen? ⟨b,1,none⟩=false:=Lib.frozen_of_heap G 1;have ad:qg (λx=>x∈F) w w2:=N.trans ((qg.of_grown Y).mono λk d=>U k d);obtain⟨g,ak,ai,O,ac,cap,rfl⟩: ∃g,(g∈F∨w.heap.size<=g/\g<w2.heap.size)/\(∀k,v'.ownBlock=some k->k∈g::F)/\ ∃O ac cap,v'= δ O ac cap:=by
  rcases id ab.2 with ⟨rfl,_⟩ | ⟨g,cap,cur,rfl,_,aj,_⟩
  ·exact⟨b,Or.inl hF,(λk d=>by cases d),_,_,_,rfl⟩
  ·refine⟨g, ?_,(λk d=>by injection d with d;subst d;exact List.mem_cons_self),_,_,_,rfl⟩;rcases ag g rfl with e | e
   ·exact Or.inl (U g e)
   ·exact Or.inr ⟨τ,lt_of_block aj⟩
 go_wp2
 go_ret2
 refine⟨rfl,ad.set hF _,g, ?_,OF (List.mem_cons_of_mem _ hF) af G ?_ ai⟩
 ·simpa [World.setCell] using ak
 ·rw[List.length_append,Lib.byteCells_append,<-Lib.strCells_eq];exact ab
theorem RF {B:Nat} {F:List Nat} {w:World} {b:Nat} {l:List UInt8} (h:Bd B F w b l) (aB:l.length<=100000):
  Calls prog 102 #[γ b,υ 10] w λe w'=>e= .returned .nilIface/\qg (λx=>x∈F) w w'/\ ∃g,(g∈F∨w.heap.size<=g/\g<w'.heap.size)/\Bd B (g::F) w' b (l++[10]):=by
 obtain⟨av,hi,aq,ar,au⟩:=info_parts (P:=prog) (e:=5) (z:= υ 0) (size:=1) (bytes:=1) ξ;have hF:=h.1;have aj:=h.2.1;have aC:b<w.heap.size:=by obtain⟨_,_,_,_,_,al,_⟩:=h;exact lt_of_block al
 have af:=κ (Oe h);have ai: ∀l:List UInt8,Lib.byteCells l=(l.map λc=>(c.toNat:Int)).map (Value.int .u8):=λl=>by unfold Lib.byteCells;rw[List.map_map];rfl
 clear h
 go_enter func102,ntmps102
 go_wp2_with (first | (go_at_call 157;(go_call af.o as e w1 ⟨rfl,⟨v,N,O,ap,ab⟩,aa⟩;obtain⟨H,I,rfl⟩:=xl O;have aE:w.heap.size<=w1.heap.size:=aa.size;have aw:w1.cell? ⟨b,0,none⟩=some (π (some ⟨b,0,none⟩)):=(by rw[Lib.cell_of_heap N];rfl);have c1:w1.cell? ⟨b,1,none⟩=some (δ H l.length I):=(by rw[Lib.cell_of_heap N];rfl);have ad:w1.ownsRow B 5 1 (δ H l.length I) (l.map λc=>(c.toNat:Int)).length ((l.map λc=>(c.toNat:Int)).map (Value.int .u8)):=(by rw[List.length_map,<-ai];exact O))) | (at_builtin;refine qU _ rfl _ _ 35 rfl B 5 av (υ 0) 1 underlying35 hi aq ar au rfl _ .u8 (l.map λc=>(c.toNat:Int)) rfl (ad.alloc _) _ [10] rfl (SlI.lit .u8 w1 [10] 5 _ 1 _ η rfl η η) (by simp;omega) ζ (by simp;omega) ?_))
 intro v' w2 U ac ak;have aD:b<w1.heap.size:=by omega
 have G:w2.heap[b]? =some (.cells #[γ b,δ H l.length I] 212 (0,0)):=by
  rw[ac.block b (by simp;omega) (λe=>ap e.symm)];exact qs N _
 have ax:w2.cell? ⟨b,0,none⟩=some (π (some ⟨b,0,none⟩)):=by rw[Lib.cell_of_heap G];rfl
 have ay:w2.cell? ⟨b,1,none⟩=some (δ H l.length I):=by rw[Lib.cell_of_heap G];rfl
 have aA:w2.frozen? ⟨b,1,none⟩=false:=Lib.frozen_of_heap G 1;have ae:qg (λx=>x∈F) w w2:=(aa.more (qa.alloc _ _)).trans ((qg.of_grown ac).mono λk d=>ab k d);obtain⟨g,ao,am,J,Y,cap,rfl⟩: ∃g,(g∈F∨w.heap.size<=g/\g<w2.heap.size)/\(∀k,v'.ownBlock=some k->k∈g::F)/\ ∃J Y cap,v'= δ J Y cap:=by
  rcases id U.2 with ⟨rfl,_⟩ | ⟨g,cap,cur,rfl,_,an,_⟩
  ·exact⟨b,Or.inl hF,(λk d=>by cases d),_,_,_,rfl⟩
  ·refine⟨g, ?_,(λk d=>by injection d with d;subst d;exact List.mem_cons_self),_,_,_,rfl⟩;rcases ak with e | e
   ·exact Or.inl (ab g e.symm)
   ·have az:g=w1.heap.size+1:=by simpa [Value.ownBlock] using e
    exact Or.inr ⟨τ,lt_of_block an⟩
 have ag:Hid (w2.ownsRow B 5 1 (δ J Y cap) (l++[10]).length (Lib.byteCells (l++[10]))):=κ (by
  have ah:Lib.byteCells (l++[10])=List.map (Value.int .u8∘λc:UInt8=>(c.toNat:Int)) l++[υ 10]:=by unfold Lib.byteCells;rw[List.map_append];rfl
  rw[List.length_append,ah]
  exact U)
 clear U O ad;go_wp2;go_ret;refine⟨rfl,ae.set hF _,g, ?_,OF (List.mem_cons_of_mem _ hF) aj G ?_ am⟩
 ·simpa [World.setCell] using ao
 ·exact ag.o
structure NG (s:ByteArray) (ps:List ByteArray):Prop where
 split:Lib.splitB ⟨#[32]⟩ 0 (Lib.countB s ⟨#[32]⟩) s=ps
 cnt:Lib.countB s ⟨#[32]⟩+1=ps.length
 few:ps.length<=100
 size:s.size<4294967281
 ne: ∀x∈ps,(x.data.toList==([]:List UInt8))=false
theorem OC {s:ByteArray} {ps:List ByteArray} (h:NG s ps) {aD:Int} (w:World) (av:w.cell? ⟨NW,0,none⟩=some (ι aD)):
  Calls prog 99 #[.string s] w λe w'=>(∃H cap,e= .returned (δ H ps.length cap)/\SlP 1 RTx w' (δ H ps.length cap) ps)/\qa w w':=by
 obtain⟨aB,hi,aw,ax,ay⟩:=info_parts (P:=prog) (e:=9) (z:= .string ByteArray.empty) (size:=1) (bytes:=16) ξ;obtain⟨ac,ad,aG,ae,af⟩:=h;have ab:=κ (OG s ⟨#[32]⟩ w ae av ζ);rw[ac,ad] at ab;have am:Hid (∀i (hi:i<ps.length),(ps[i].toList==([]:List UInt8))=false):=κ (λi hi=>by rw[ByteArray.toList_eq];exact af _ (List.getElem_mem hi));clear ac ad ae af
 go_enter func99,ntmps99
 go_wp2_with ((go_at_call 98;(go_call ab.o as e w1 ⟨rfl,N⟩;have ap:Hid (qa w w1):=κ (by rw[N];exact qa.alloc _ _);have aj:Hid (w1.heap[w.heap.size]? =some (.cells (ps.map Value.string).toArray 9 (0,0))):=κ (by rw[N];exact qj _ _);clear N)))
 go_loopw [3,9] (λu U wr=> ∃i:Nat,i<=ps.length/\U= ι i/\(∃aa Y J,u= δ aa Y J)/\je 1 RTx (λ_=>False) wr w1.heap.size 9 u (ps.take i)/\qa w1 wr) (λ_ U _=>ps.length-(intOf U).toNat)
 case atStart=>exact⟨0,τ,rfl,⟨_,_,_,rfl⟩,je.nil _ _ _ _ _ _,qa.refl _⟩
 case round=>
  obtain⟨i,aH,rfl,⟨aa,Y,J,rfl⟩,ai,ah⟩:=hrel;have I:=κ ai;have G:=κ ah;clear ai ah;by_cases hlt:i<ps.length
  ·have au:(i:Int)<(ps.length:Int):=by omega
   have aE:wr.cell? ⟨w.heap.size,i,none⟩=some (.string ps[i]):=qb (qc G.o aj.o) i (by simp[List.getElem?_eq_getElem hlt]);have aI:=am.o i hlt;have ao:Hid (ps.take (i+1)=ps.take i++[ps[i]]):=κ (List.take_succ_eq_append_getElem hlt);have aJ:(ps.take i).length<=100:=by rw[List.length_take];omega
   generalize ps[i]=x at *;generalize ps.take i=fl at *;have an:=κ (I.o.on (qa.alloc wr (.cells #[.string x] 9)));have ak:Hid (∀b,(δ aa Y J).ownBlock=some b->w1.heap.size<=b):=κ (λb h=>I.o.ge h)
   go_wp2_with (at_builtin;(refine jN (R:=RTx) (D:=λ_=>False) _ rfl (.tmp 15) (.tmp 17) 215 rfl w1.heap.size 9 aB (.string ByteArray.empty) 1 16 underlying215 hi aw ax ay rfl ζ _ fl rfl an.o wr.heap.size [.string x] x rfl rfl (zS η) (by simp[Value.oneCell']) (λw' _=>rfl) (λb h=>h.elim) ζ τ (G.o.al _).size ?_;intro v' w8 d ag ar;have aC:Hid (qa w1 w8):=κ (Below.grown (G.o.al _) ag (G.o.al _).size ak.o);obtain⟨aL,aK,aF,rfl,az,aA⟩:=d.shape;have aq:=κ d;clear d ag ar az aA))
   go_roundw
   case rel=>exact⟨i+1,τ,by go_num,⟨_,_,_,rfl⟩,by rw[ao.o];exact aq.o,aC.o⟩
   case measure=>simp[intOf];omega
  ·obtain rfl:i=ps.length:=by omega
   have au: ¬(ps.length:Int)<(ps.length:Int):=by omega
   go_wp2;go_ret;have d:=I.o;rw[List.take_length] at d;have O:=d.sl ζ;obtain⟨H,cap,e,_⟩:=id O;rw[e] at O ⊢;exact⟨⟨H,cap,rfl,O⟩,ap.o.trans G.o⟩
def scT:ByteArray:=⟨#[114,111,111,109,32,50,32,50,32,49,32,49,32,50,32,49,10,112,117,98,108,105,115,104,32,48,32,55,32,56,32,57,10,106,111,105,110,32,48,32,53,48,32,53,32,49,48,48,10,116,97,107,101,32,48,32,48,32,48,10,107,101,121,32,55,32,49,32,57,10,116,117,114,110,32,49,10,119,114,111,116,101,32,48]⟩
def scL:List ByteArray:=[⟨#[114,111,111,109,32,50,32,50,32,49,32,49,32,50,32,49]⟩,⟨#[112,117,98,108,105,115,104,32,48,32,55,32,56,32,57]⟩,⟨#[106,111,105,110,32,48,32,53,48,32,53,32,49,48,48]⟩,⟨#[116,97,107,101,32,48,32,48,32,48]⟩,⟨#[107,101,121,32,55,32,49,32,57]⟩,⟨#[116,117,114,110,32,49]⟩,⟨#[119,114,111,116,101,32,48]⟩]
theorem scS:Lib.splitB ⟨#[10]⟩ 0 (Lib.countB scT ⟨#[10]⟩) scT=scL:=by kernel_rfl
theorem scC:Lib.countB scT ⟨#[10]⟩=6:=by kernel_rfl
theorem RE (w:World):Calls prog 161 #[.string ⟨#[114,111,111,109]⟩] w λe w'=>e= .returned (.string ⟨#[110,110,110,110,110,110]⟩)/\w'=w:=by
 go_enter func161,ntmps161
 go_wp2;go_ret;exact⟨rfl,rfl⟩
theorem Ro:NG ⟨#[114,111,111,109,32,50,32,50,32,49,32,49,32,50,32,49]⟩ [⟨#[114,111,111,109]⟩,⟨#[50]⟩,⟨#[50]⟩,⟨#[49]⟩,⟨#[49]⟩,⟨#[50]⟩,⟨#[49]⟩]:=⟨ξ,ξ,ζ,ζ,ζ⟩
theorem RP:NF ⟨#[110,110,110,110,110,110]⟩ [⟨#[50]⟩,⟨#[50]⟩,⟨#[49]⟩,⟨#[49]⟩,⟨#[50]⟩,⟨#[49]⟩] [2,2,1,1,2,1]:=⟨rfl,ζ,ζ,rfl,λi h d G=>by
 match i,h with
 | 0,_=>exact(⟨ζ,ζ,ζ,ζ,ζ⟩:RZ ⟨#[50]⟩ 999999999 2)
 | 1,_=>exact(⟨ζ,ζ,ζ,ζ,ζ⟩:RZ ⟨#[50]⟩ 999999999 2)
 | 2,_=>exact(⟨ζ,ζ,ζ,ζ,ζ⟩:RZ ⟨#[49]⟩ 999999999 1)
 | 3,_=>exact(⟨ζ,ζ,ζ,ζ,ζ⟩:RZ ⟨#[49]⟩ 999999999 1)
 | 4,_=>exact(⟨ζ,ζ,ζ,ζ,ζ⟩:RZ ⟨#[50]⟩ 999999999 2)
 | 5,_=>exact(⟨ζ,ζ,ζ,ζ,ζ⟩:RZ ⟨#[49]⟩ 999999999 1)⟩
theorem RD (w:World):Calls prog 161 #[.string ⟨#[112,117,98,108,105,115,104]⟩] w λe w'=>e= .returned (.string ⟨#[110,110,110,110]⟩)/\w'=w:=by
 go_enter func161,ntmps161
 go_wp2;go_ret;exact⟨rfl,rfl⟩
theorem Rn:NG ⟨#[112,117,98,108,105,115,104,32,48,32,55,32,56,32,57]⟩ [⟨#[112,117,98,108,105,115,104]⟩,⟨#[48]⟩,⟨#[55]⟩,⟨#[56]⟩,⟨#[57]⟩]:=⟨ξ,ξ,ζ,ζ,ζ⟩
theorem RN:NF ⟨#[110,110,110,110]⟩ [⟨#[48]⟩,⟨#[55]⟩,⟨#[56]⟩,⟨#[57]⟩] [0,7,8,9]:=⟨rfl,ζ,ζ,rfl,λi h d G=>by
 match i,h with
 | 0,_=>exact(⟨ζ,ζ,ζ,ζ,ζ⟩:RZ ⟨#[48]⟩ 999999999 0)
 | 1,_=>exact(⟨ζ,ζ,ζ,ζ,ζ⟩:RZ ⟨#[55]⟩ 999999999 7)
 | 2,_=>exact(⟨ζ,ζ,ζ,ζ,ζ⟩:RZ ⟨#[56]⟩ 999999999 8)
 | 3,_=>exact(⟨ζ,ζ,ζ,ζ,ζ⟩:RZ ⟨#[57]⟩ 999999999 9)⟩
theorem RC (w:World):Calls prog 161 #[.string ⟨#[106,111,105,110]⟩] w λe w'=>e= .returned (.string ⟨#[110,110,115,110]⟩)/\w'=w:=by
 go_enter func161,ntmps161
 go_wp2;go_ret;exact⟨rfl,rfl⟩
theorem Rm:NG ⟨#[106,111,105,110,32,48,32,53,48,32,53,32,49,48,48]⟩ [⟨#[106,111,105,110]⟩,⟨#[48]⟩,⟨#[53,48]⟩,⟨#[53]⟩,⟨#[49,48,48]⟩]:=⟨ξ,ξ,ζ,ζ,ζ⟩
theorem RM:NF ⟨#[110,110,115,110]⟩ [⟨#[48]⟩,⟨#[53,48]⟩,⟨#[53]⟩,⟨#[49,48,48]⟩] [0,50,5,100]:=⟨rfl,ζ,ζ,rfl,λi h d G=>by
 match i,h with
 | 0,_=>exact(⟨ζ,ζ,ζ,ζ,ζ⟩:RZ ⟨#[48]⟩ 999999999 0)
 | 1,_=>exact(⟨ζ,ζ,ζ,ζ,ζ⟩:RZ ⟨#[53,48]⟩ 999999999 50)
 | 2,_=>exact(⟨ζ,ζ,ζ,ζ,ζ⟩:RZ ⟨#[53]⟩ 65535 5)
 | 3,_=>exact(⟨ζ,ζ,ζ,ζ,ζ⟩:RZ ⟨#[49,48,48]⟩ 999999999 100)⟩
theorem RA (w:World):Calls prog 161 #[.string ⟨#[116,97,107,101]⟩] w λe w'=>e= .returned (.string ⟨#[110,110,110]⟩)/\w'=w:=by
 go_enter func161,ntmps161
 go_wp2;go_ret;exact⟨rfl,rfl⟩
theorem Rl:NG ⟨#[116,97,107,101,32,48,32,48,32,48]⟩ [⟨#[116,97,107,101]⟩,⟨#[48]⟩,⟨#[48]⟩,⟨#[48]⟩]:=⟨ξ,ξ,ζ,ζ,ζ⟩
theorem RL:NF ⟨#[110,110,110]⟩ [⟨#[48]⟩,⟨#[48]⟩,⟨#[48]⟩] [0,0,0]:=⟨rfl,ζ,ζ,rfl,λi h d G=>by
 match i,h with
 | 0,_=>exact(⟨ζ,ζ,ζ,ζ,ζ⟩:RZ ⟨#[48]⟩ 999999999 0)
 | 1,_=>exact(⟨ζ,ζ,ζ,ζ,ζ⟩:RZ ⟨#[48]⟩ 999999999 0)
 | 2,_=>exact(⟨ζ,ζ,ζ,ζ,ζ⟩:RZ ⟨#[48]⟩ 999999999 0)⟩
theorem Rz (w:World):Calls prog 161 #[.string ⟨#[107,101,121]⟩] w λe w'=>e= .returned (.string ⟨#[110,115,110]⟩)/\w'=w:=by
 go_enter func161,ntmps161
 go_wp2;go_ret;exact⟨rfl,rfl⟩
theorem Rk:NG ⟨#[107,101,121,32,55,32,49,32,57]⟩ [⟨#[107,101,121]⟩,⟨#[55]⟩,⟨#[49]⟩,⟨#[57]⟩]:=⟨ξ,ξ,ζ,ζ,ζ⟩
theorem RK:NF ⟨#[110,115,110]⟩ [⟨#[55]⟩,⟨#[49]⟩,⟨#[57]⟩] [7,1,9]:=⟨rfl,ζ,ζ,rfl,λi h d G=>by
 match i,h with
 | 0,_=>exact(⟨ζ,ζ,ζ,ζ,ζ⟩:RZ ⟨#[55]⟩ 999999999 7)
 | 1,_=>exact(⟨ζ,ζ,ζ,ζ,ζ⟩:RZ ⟨#[49]⟩ 65535 1)
 | 2,_=>exact(⟨ζ,ζ,ζ,ζ,ζ⟩:RZ ⟨#[57]⟩ 999999999 9)⟩
theorem Ry (w:World):Calls prog 161 #[.string ⟨#[116,117,114,110]⟩] w λe w'=>e= .returned (.string ⟨#[116]⟩)/\w'=w:=by
 go_enter func161,ntmps161
 go_wp2;go_ret;exact⟨rfl,rfl⟩
theorem Rj:NG ⟨#[116,117,114,110,32,49]⟩ [⟨#[116,117,114,110]⟩,⟨#[49]⟩]:=⟨ξ,ξ,ζ,ζ,ζ⟩
theorem RJ:NF ⟨#[116]⟩ [⟨#[49]⟩] [1]:=⟨rfl,ζ,ζ,rfl,λi h d G=>by
 match i,h with
 | 0,_=>exact(⟨ζ,ζ,ζ,ζ,ζ⟩:RZ ⟨#[49]⟩ 20 1)⟩
theorem Rx (w:World):Calls prog 161 #[.string ⟨#[119,114,111,116,101]⟩] w λe w'=>e= .returned (.string ⟨#[110]⟩)/\w'=w:=by
 go_enter func161,ntmps161
 go_wp2;go_ret;exact⟨rfl,rfl⟩
theorem Ri:NG ⟨#[119,114,111,116,101,32,48]⟩ [⟨#[119,114,111,116,101]⟩,⟨#[48]⟩]:=⟨ξ,ξ,ζ,ζ,ζ⟩
theorem RI:NF ⟨#[110]⟩ [⟨#[48]⟩] [0]:=⟨rfl,ζ,ζ,rfl,λi h d G=>by
 match i,h with
 | 0,_=>exact(⟨ζ,ζ,ζ,ζ,ζ⟩:RZ ⟨#[48]⟩ 999999999 0)⟩
theorem Rt {H w:World} {pb g cap:Nat} {F:List Nat} (h:Pl H pb (some tp4) F w) (ad:Lib.TabIs prog H EF .u64 Lib.pow10Tab) (O: ∀i y,([1]:List Int)[i]? =some y->w.cell? ⟨g,i,none⟩=some (ι y)):
  Calls prog 218 #[γ pb,.string ⟨#[116,117,114,110]⟩,δ (some ⟨g,0,none⟩) 1 cap] w λe w'=>e= .returned (.string ⟨#[53]⟩)/\Pl H pb (some tp5) F w'/\ql pb F w w':=by
 obtain⟨R,ac,N⟩:=h.room;have ae:w.cell? ⟨pb,0,none⟩=some (π (some ⟨R,0,none⟩)):=qb N 0 rfl;have c1:=O 0 1 rfl;have U:=κ (Rf h);clear h ac N O
 go_enter func218,ntmps218
 go_wp2_with (first | (go_at_call 267;(go_call U.o as e w5 ⟨rfl,d,t5⟩;have I:=κ d;have aa:=κ t5;have J:=κ (Re 5 ζ w5 (V2 ad d.2.2.1));rw[Rw] at J;clear d t5)) | (go_at_call 159;(go_call J.o as e w6 ⟨rfl,G⟩;have Y:=κ (I.o.on G);have ab:=κ (aa.o.trans (I.o.stay G));clear G)))
 go_ret;exact⟨rfl,Y.o,ab.o⟩
theorem do5 {d w:World} {pb g cap:Nat} {F:List Nat} (h:Pl d pb (some tp4) F w) (Y:Lib.TabIs prog d EF .u64 Lib.pow10Tab) (I: ∀i y,([1]:List Int)[i]? =some y->w.cell? ⟨g,i,none⟩=some (ι y)):
  Calls prog 162 #[γ pb,.string ⟨#[116,117,114,110]⟩,δ (some ⟨g,0,none⟩) 1 cap] w λe w'=>e= .returned (.string ⟨#[53]⟩)/\Pl d pb (some tp5) F w'/\ql pb F w w':=by
 obtain⟨R,U,H⟩:=h.room;have aa:w.cell? ⟨pb,0,none⟩=some (π (some ⟨R,0,none⟩)):=qb H 0 rfl;have J:=κ (Rt (cap:=cap) h Y I);clear h U H I
 go_enter func162,ntmps162
 go_wp2_with ((go_at_call 218;(go_call J.o as e w5 ⟨rfl,G,t5⟩;have N:=κ G;have O:=κ t5;clear G t5)))
 go_ret;exact⟨rfl,N.o,O.o⟩
theorem Rs {G w:World} {pb g cap:Nat} {F:List Nat} (h:Pl G pb (some tp5) F w) (aa:Lib.TabIs prog G EF .u64 Lib.pow10Tab) (J: ∀i y,([0]:List Int)[i]? =some y->w.cell? ⟨g,i,none⟩=some (ι y)):
  Calls prog 218 #[γ pb,.string ⟨#[119,114,111,116,101]⟩,δ (some ⟨g,0,none⟩) 1 cap] w λe w'=>e= .returned (.string ⟨#[48,58,53,58,49,48,48]⟩)/\Pl G pb (some tp5) F w'/\ql pb F w w':=by
 obtain⟨R,Y,I⟩:=h.room;have ab:w.cell? ⟨pb,0,none⟩=some (π (some ⟨R,0,none⟩)):=qb I 0 rfl;have c1:=J 0 0 rfl;have N:=κ (OV h aa);have H:=κ h;clear h Y I J
 go_enter func218,ntmps218
 go_wp2_with ((go_at_call 269;(go_call N.o as e w5 ⟨rfl,d⟩;have O:=κ (H.o.on d);have U:=κ (H.o.stay d);clear d)))
 go_ret;exact⟨rfl,O.o,U.o⟩
theorem do6 {d w:World} {pb g cap:Nat} {F:List Nat} (h:Pl d pb (some tp5) F w) (Y:Lib.TabIs prog d EF .u64 Lib.pow10Tab) (I: ∀i y,([0]:List Int)[i]? =some y->w.cell? ⟨g,i,none⟩=some (ι y)):
  Calls prog 162 #[γ pb,.string ⟨#[119,114,111,116,101]⟩,δ (some ⟨g,0,none⟩) 1 cap] w λe w'=>e= .returned (.string ⟨#[48,58,53,58,49,48,48]⟩)/\Pl d pb (some tp5) F w'/\ql pb F w w':=by
 obtain⟨R,U,H⟩:=h.room;have aa:w.cell? ⟨pb,0,none⟩=some (π (some ⟨R,0,none⟩)):=qb H 0 rfl;have J:=κ (Rs (cap:=cap) h Y I);clear h U H I
 go_enter func162,ntmps162
 go_wp2_with ((go_at_call 218;(go_call J.o as e w5 ⟨rfl,G,t5⟩;have N:=κ G;have O:=κ t5;clear G t5)))
 go_ret;exact⟨rfl,N.o,O.o⟩
def OU:Nat->ByteArray
 | 0=>⟨#[114,111,111,109,32,50,32,50,32,49,32,49,32,50,32,49]⟩
 | 1=>⟨#[112,117,98,108,105,115,104,32,48,32,55,32,56,32,57]⟩
 | 2=>⟨#[106,111,105,110,32,48,32,53,48,32,53,32,49,48,48]⟩
 | 3=>⟨#[116,97,107,101,32,48,32,48,32,48]⟩
 | 4=>⟨#[107,101,121,32,55,32,49,32,57]⟩
 | 5=>⟨#[116,117,114,110,32,49]⟩
 | _=>⟨#[119,114,111,116,101,32,48]⟩
def Ow:Nat->List ByteArray
 | 0=>[⟨#[114,111,111,109]⟩,⟨#[50]⟩,⟨#[50]⟩,⟨#[49]⟩,⟨#[49]⟩,⟨#[50]⟩,⟨#[49]⟩]
 | 1=>[⟨#[112,117,98,108,105,115,104]⟩,⟨#[48]⟩,⟨#[55]⟩,⟨#[56]⟩,⟨#[57]⟩]
 | 2=>[⟨#[106,111,105,110]⟩,⟨#[48]⟩,⟨#[53,48]⟩,⟨#[53]⟩,⟨#[49,48,48]⟩]
 | 3=>[⟨#[116,97,107,101]⟩,⟨#[48]⟩,⟨#[48]⟩,⟨#[48]⟩]
 | 4=>[⟨#[107,101,121]⟩,⟨#[55]⟩,⟨#[49]⟩,⟨#[57]⟩]
 | 5=>[⟨#[116,117,114,110]⟩,⟨#[49]⟩]
 | _=>[⟨#[119,114,111,116,101]⟩,⟨#[48]⟩]
def Ox:Nat->List UInt8
 | 0=>[111,107]
 | 1=>[111,107]
 | 2=>[111,107]
 | 3=>[111,107]
 | 4=>[111,107]
 | 5=>[111,107,32,53]
 | _=>[111,107,32,48,58,53,58,49,48,48]
def scR:Nat->Option RmS
 | 0=>none
 | 1=>some tp0
 | 2=>some tp1
 | 3=>some tp2
 | 4=>some tp3
 | 5=>some tp4
 | 6=>some tp5
 | _=>some tp5
def MZ (j:Nat):List UInt8:=(List.range j).flatMap λk=>Ox k++[10]
theorem Om (j:Nat):MZ (j+1)=MZ j++Ox j++[10]:=by
 unfold MZ;rw[List.range_succ,List.flatMap_append];simp
theorem Oy: ∀j,j<7->(MZ j).length<=100/\(Ox j).length<=20:=by decide
theorem Rh: ∀j,j<7->NG (OU j) (Ow j)
 | 0,_=>Ro
 | 1,_=>Rn
 | 2,_=>Rm
 | 3,_=>Rl
 | 4,_=>Rk
 | 5,_=>Rj
 | 6,_=>Ri
theorem OI: ∀j,j<7->0<(Ow j).length:=by decide
theorem Rp {N:World} {pb:Nat} (O:Lib.TabIs prog N EF .u64 Lib.pow10Tab): ∀j,j<7-> ∀(F:List Nat) (w:World) (c J cap:Nat),Pl N pb (scR j) F w->SlP 1 RTx w (δ (some ⟨c,J,none⟩) (Ow j).length cap) (Ow j)->
  Calls prog 101 #[γ pb,δ (some ⟨c,J,none⟩) (Ow j).length cap] w λe w'=>e= .returned (.string ⟨(Ox j).toArray⟩)/\Pl N pb (scR (j+1)) F w'/\ql pb F w w'
 | 0,_=>λF w c J cap h G=>V7 (more:=[]) h G RE RP (by rw[ByteArray.toList_eq];decide) ζ (λF w g cap h H I d=>do0 h H I d)
 | 1,_=>λF w c J cap h G=>V7 (more:=[]) h G RD RN (by rw[ByteArray.toList_eq];decide) ζ (λF w g cap h H I d=>do1 h H I d)
 | 2,_=>λF w c J cap h G=>V7 (more:=[]) h G RC RM (by rw[ByteArray.toList_eq];decide) ζ (λF w g cap h H I d=>do2 h H I d)
 | 3,_=>λF w c J cap h G=>V7 (more:=[]) h G RA RL (by rw[ByteArray.toList_eq];decide) ζ (λF w g cap h H I d=>do3 h H I d)
 | 4,_=>λF w c J cap h G=>V7 (more:=[]) h G Rz RK (by rw[ByteArray.toList_eq];decide) ζ (λF w g cap h H I d=>do4 h H I d)
 | 5,_=>λF w c J cap h G=>V7 (more:=[53]) h G Ry RJ (by rw[ByteArray.toList_eq];decide) ζ (λF w g cap h H I d=>do5 h O d)
 | 6,_=>λF w c J cap h G=>V7 (more:=[48,58,53,58,49,48,48]) h G Rx RI (by rw[ByteArray.toList_eq];decide) ζ (λF w g cap h H I d=>do6 h O d)
theorem OL: ∀j,j<7->(scL.map Value.string).toArray[j]? =some (.string (OU j)):=by
 intro j d
 match j,d with
 | 0,_=>rfl
 | 1,_=>rfl
 | 2,_=>rfl
 | 3,_=>rfl
 | 4,_=>rfl
 | 5,_=>rfl
 | 6,_=>rfl
def scOut:List UInt8:=[111,107,10,111,107,10,111,107,10,111,107,10,111,107,10,111,107,32,53,10,111,107,32,48,58,53,58,49,48,48,10]
theorem Rr:MZ 7=scOut:=by decide
theorem RG {aY:Int} (w:World) (au:w.cell? ⟨NW,0,none⟩=some (ι aY)) (aU:Lib.TabIs prog w EF .u64 Lib.pow10Tab):
  Calls prog 39 #[.string scT] w λe w'=>e= .returned (.tuple #[.string ⟨scOut.toArray⟩,ι 0])/\qa w w':=by
 have bB:(scT.size:Int)=84:=by decide
 have aS:NW<w.heap.size:=(Gb au).2;obtain⟨W1,aq⟩:=ν (w.alloc (.cells #[π none,()] 212));obtain⟨W2,ar⟩:=ν (W1.alloc (.cells #[π none] 214));have ak:qa w W1:=by rw[<-aq];exact qa.alloc _ _
 have U:qa W1 W2:=by rw[<-ar];exact qa.alloc _ _
 have av:W1.heap.size=w.heap.size+1:=by rw[<-aq];simp
 have aT:W2.heap.size=w.heap.size+2:=by rw[<-ar];simp[av]
 have aG:=κ (λw' (m:qa w w')=>show w'.cell? ⟨NW,0,none⟩=some (ι aY) from by rw[m.cells _ _ aS];exact au);have aj:=κ (OG scT ⟨#[10]⟩ W2 ζ (aG.o _ (ak.trans U)) ζ);rw[scS,scC] at aj;have bi:=κ aU;have aB:Hid (W2.heap[w.heap.size]? =some (.cells #[π none,()] 212 (0,0))):=κ (qc U (by rw[<-aq];exact qj _ _));have aC:Hid (W2.heap[W1.heap.size]? =some (.cells #[π none] 214 (0,0))):=κ (by rw[<-ar];exact qj _ _);have bl:=κ (ak.trans U);have aH:=κ av;have aI:=κ aT;clear au aU aS ak U av aT
 go_enter func39,ntmps39
 go_wp2_with ((go_at_call 98;(go_call aj.o as e J ⟨rfl,ac⟩;have al:Hid (qa W2 J):=κ (by rw[ac];exact qa.alloc _ _);have I:Hid (J.heap[W2.heap.size]? =some (.cells (scL.map Value.string).toArray 9 (0,0))):=κ (by rw[ac];exact qj _ _);clear ac)))
 have bs:=aH.o;have bt:=aI.o;have bu:=qn I.o;have aP:Hid (∃G,W1.heap.size∉G/\W2.heap.size∉G/\Pl w W1.heap.size (scR 0) ([W1.heap.size,W2.heap.size]++G) J/\Bd w.heap.size G J w.heap.size (MZ 0)/\J.heap[W2.heap.size]? =some (.cells (scL.map Value.string).toArray 9 (0,0))):=κ
  ⟨[w.heap.size],(by simp;omega),(by simp;omega),⟨η,λb d=>by simp at d;omega,bl.o.trans al.o,qc al.o aC.o⟩,⟨η,Nat.le_refl _,_,_,Or.inl rfl,qc al.o aB.o,World.ownsRow_nil _ _ _ _,by simp[Value.ownBlock],λg h=>by cases h⟩,I.o⟩
 clear bs bt bu aj I aC aB
 go_loopw [15] (λaw wr=> ∃j:Nat,j<=7/\aw= ι j/\ ∃G,W1.heap.size∉G/\W2.heap.size∉G/\Pl w W1.heap.size (scR j) ([W1.heap.size,W2.heap.size]++G) wr/\Bd w.heap.size G wr w.heap.size (MZ j)/\wr.heap[W2.heap.size]? =some (.cells (scL.map Value.string).toArray 9 (0,0))) (λaw _=>7-(intOf aw).toNat)
 case atStart=>exact⟨0,τ,rfl,aP.o⟩
 case round=>
  obtain⟨j,bA,rfl,G,ay,n2,N,d,af⟩:=hrel;have Y:=κ ay;have am:=κ n2;have ai:=κ N;have bf:=κ d;have bg:=κ af;by_cases hlt:j<7
  ·have br:(j:Int)<7:=by omega
   have bx:wr.cell? ⟨W2.heap.size,j,none⟩=some (.string (OU j)):=qb af j (OL j hlt);have aK:=κ (OC (Rh j hlt) wr (aG.o wr N.2.2.1));have aF:=κ (Rp (pb:=W1.heap.size) bi.o j hlt);obtain⟨bw,aW⟩:=ν (Ow j);have aV:=OI j hlt;rw[aW] at aK aF aV;obtain⟨t1,t2⟩:=Oy j hlt;have bq:=κ (Om j);have aE:=κ (⟨t1,t2⟩:(MZ j).length<=100/\(Ox j).length<=20);generalize OU j=ln at *;clear ay n2 N d af aW t1 t2 aP
   go_wp2_with (first | (go_at_call 99;(go_call aK.o as e w1 ⟨⟨bv,cap,rfl,s1⟩,ax⟩;obtain⟨c,ag,cs,rfl,_,_,_,_⟩:=(show ∃b ag cs,bv=some ⟨b,ag,none⟩/\b<w1.heap.size/\cs.length=1/\(∀j,j<1->w1.cell? ⟨b,ag+0* 1+j,none⟩=cs[j]?)/\RTx w1 cs bw[0] from (by obtain⟨bC,bz,e,_,ae,_⟩:=s1;injection e with e1 e2 ac;subst e1;exact ae 0 aV));have bd:=κ (ai.o.on ax);have bh:=κ (aF.o _ w1 c ag cap bd.o s1);have bp:=κ (ai.o.stay ax);clear s1 ax)) | (go_at_call 101;(go_call bh.o as e w2 ⟨rfl,ae,t2⟩;have ah:=κ ae;have ap:=κ (bp.o.trans t2);have bb:=κ (bf.o.more (F:=G) ⟨ap.o.1,λb d=>ap.o.2 b (List.mem_append_right _ d) (λe=>Y.o (e▸d))⟩);have bj:=κ (ap.o.blk η (λe=>by have:=aH.o;have:=aI.o;omega) bg.o);clear ae t2)) | (go_at_call 100;(go_call RU bb.o ⟨(Ox j).toArray⟩ (by have:=aE.o;simp[ByteArray.size];omega) as e bD ⟨rfl,a3,H,aZ,aQ⟩;have az:=κ a3;have an:=κ aZ;have I:=κ aQ;clear a3 aZ aQ)) | (go_at_call 102;(go_call RF I.o (by have:=aE.o;simp;omega) as e w4 ⟨rfl,a4,ad,ba,aR⟩;have aA:=κ a4;have ao:=κ ba;have bc:=κ aR;clear a4 ba aR)))
   have aa:W1.heap.size∉H::G:=λe=>by
    rcases List.mem_cons.1 e with e | e
    ·rcases an.o with f | f
     ·exact Y.o (e▸f)
     ·have:=ah.o.lt W1.heap.size η;omega
    ·exact Y.o e
   have ab:W2.heap.size∉H::G:=λe=>by
    rcases List.mem_cons.1 e with e | e
    ·rcases an.o with f | f
     ·exact am.o (e▸f)
     ·have:=ah.o.lt W2.heap.size η;omega
    ·exact am.o e
   have O:=ah.o.mutA (Fn:=[H]) az.o (λb d=>List.mem_append_right _ d) Y.o (λb d=>by
    simp at d;subst d
    exact an.o.elim (λf=>Or.inl (List.mem_append_right _ f)) Or.inr)
   have aL:=az.o.blk bj.o am.o
   have aD:=O.mutA (Fn:=[ad]) aA.o (λb d=>by
    rcases List.mem_cons.1 d with e | e
    ·rw[e];simp
    ·exact List.mem_append_right _ (List.mem_append_right _ e)) aa (λb d=>by
    simp at d;subst d;rcases ao.o with f | f
    ·refine Or.inl ?_;rcases List.mem_cons.1 f with e | e
     ·rw[e];simp
     ·exact List.mem_append_right _ (List.mem_append_right _ e)
    ·exact Or.inr f)
   have aM:=aA.o.blk aL ab;have aN:W1.heap.size∉ad::H::G:=λe=>by
    rcases List.mem_cons.1 e with e | e
    ·rcases ao.o with f | f
     ·exact aa (e▸f)
     ·have:=O.lt W1.heap.size η;omega
    ·exact aa e
   have aO:W2.heap.size∉ad::H::G:=λe=>by
    rcases List.mem_cons.1 e with e | e
    ·rcases ao.o with f | f
     ·exact ab (e▸f)
     ·have:=O.lt W2.heap.size η;omega
    ·exact ab e
   have be:=κ (aD.sub (F':=[W1.heap.size,W2.heap.size]++(ad::H::G)) (λb d=>by
    rcases List.mem_append.1 d with e | e
    ·exact List.mem_append_right _ (List.mem_append_right _ (List.mem_append_left _ e))
    ·rcases List.mem_cons.1 e with e | e
     ·rw[e];simp
     ·rcases List.mem_cons.1 e with e | e
      ·rw[e];simp
      ·exact List.mem_append_right _ (List.mem_append_right _ (List.mem_append_right _ e))) η)
   have bk:=κ aM;have bn:=κ aN;have bo:=κ aO;clear aa ab O aL aD aM aN aO;go_roundw
   case rel=>exact⟨j+1,τ,by go_num,_,bn.o,bo.o,be.o,by rw[bq.o];exact bc.o,bk.o⟩
   case measure=>simp[intOf];omega
  ·obtain rfl:j=7:=by omega
   have br: ¬((7:Nat):Int)<7:=by omega
   have aJ:=κ (Rc w.heap.size w.heap.size (MZ 7) wr d.is N.2.2.1.size);rw[Rr] at aJ;clear ay n2 N d af
   go_wp2_with ((go_at_call 103;(go_call aJ.o as e w5 ⟨rfl,aX⟩;have bm:=κ aX;clear aX)))
   go_ret2
   exact⟨rfl,Below.trans ai.o.2.2.1 bm.o⟩
theorem Ol {N:Int} (w:World) (d:w.cell? ⟨NW,0,none⟩=some (ι N)) (G:Lib.TabIs prog w EF .u64 Lib.pow10Tab):
  Calls prog 8 #[] w λe w'=>e= .returned (μ true)/\qa w w':=by
 have I:Hid (Calls prog 39 #[.string ⟨#[114,111,111,109,32,50,32,50,32,49,32,49,32,50,32,49,10,112,117,98,108,105,115,104,32,48,32,55,32,56,32,57,10,106,111,105,110,32,48,32,53,48,32,53,32,49,48,48,10,116,97,107,101,32,48,32,48,32,48,10,107,101,121,32,55,32,49,32,57,10,116,117,114,110,32,49,10,119,114,111,116,101,32,48]⟩] w λe w'=>e= .returned (.tuple #[.string ⟨#[111,107,10,111,107,10,111,107,10,111,107,10,111,107,10,111,107,32,53,10,111,107,32,48,58,53,58,49,48,48,10]⟩,ι 0])/\qa w w'):=κ (RG w d G);clear d G
 go_enter func8,ntmps8
 go_wp2_with ((go_at_call 39;(go_call I.o as e w5 ⟨rfl,H⟩;have J:=κ H;clear H)))
 go_ret;exact⟨rfl,J.o⟩
theorem cfq (c:CfR) {w w1:World} (m:qa (w.alloc (.cells #[ι c.room,ι c.hold,ι c.wait,ι c.space,ι c.retry,ι c.most] 25)) w1):
  qa w w1/\w1.cell? ⟨w.heap.size,0,none⟩=some (ι c.room)/\w1.cell? ⟨w.heap.size,1,none⟩=some (ι c.hold)/\w1.cell? ⟨w.heap.size,2,none⟩=some (ι c.wait)/\w1.cell? ⟨w.heap.size,3,none⟩=some (ι c.space)/\w1.cell? ⟨w.heap.size,4,none⟩=some (ι c.retry)/\w1.cell? ⟨w.heap.size,5,none⟩=some (ι c.most):=by
 have B:=qc m (qj w _);exact⟨(qa.alloc _ _).trans m,qb B 0 rfl,qb B 1 rfl,qb B 2 rfl,qb B 3 rfl,qb B 4 rfl,qb B 5 rfl⟩
theorem Sd (c:CfR) (ab:Option Addr) (n cap:Nat) (os:Option Addr) (aa cs:Nat) (acc:Bool) (w:World) {Y:Int} (G:w.cell? ⟨NW,0,none⟩=some (ι Y)) (H:Lib.TabIs prog w EF .u64 Lib.pow10Tab) (h:xY c=false):
  Calls prog 6 #[θ #[ι c.room,ι c.hold,ι c.wait,ι c.space,ι c.retry,ι c.most],δ ab n cap,δ os aa cs,acc] w λe w'=>e= .returned (μ true)/\qa w w':=by
 have N:=κ (YL c h);have J:=κ (λw' (m:qa w w')=>Ol w' (by rw[m.cells _ _ (Gb G).2];exact G) (V2 H m));clear h G H
 go_enter func6,ntmps6
 go_wp2_with (first | (go_at_call 8;(go_call J.o _ (qa.alloc _ _) as e w1 ⟨rfl,d⟩;obtain⟨d,ac,ad,ae,af,ag,ah⟩:=cfq c d;have O:=κ d;clear d)) | (go_at_call 9;(go_call N.o _ as e w2 ⟨rfl,I⟩;have U:Hid (qa w w2):=κ (O.o.trans I);clear I)))
 go_ret;exact⟨rfl,U.o⟩
theorem R7 (c:CfR) (v:Value) (l:List A22) (os:Option Addr) (J cs:Nat) (acc:Bool) (w:World) {aj:Int} (H:w.cell? ⟨NW,0,none⟩=some (ι aj)) (ab:Lib.TabIs prog w EF .u64 Lib.pow10Tab) (h:xY c=true) (N:SlP 14 uh w v l) (G:(yk l||decide (20<J))=true):
  Calls prog 6 #[θ #[ι c.room,ι c.hold,ι c.wait,ι c.space,ι c.retry,ι c.most],v,δ os J cs,acc] w λe w'=>e= .returned (μ true)/\qa w w':=by
 have af:=κ (JN c h);have O:=κ (λw1 (d:qa w w1)=>uS v l w1 (N.keep kj d));have ae:=κ (λw' (m:qa w w')=>Ol w' (by rw[m.cells _ _ (Gb H).2];exact H) (V2 ab m));obtain⟨q,ai⟩:=ν (yk l);rw[ai] at O G;obtain⟨an,cap,rfl,_⟩:=Yt N;have aa:q=false->(20:Int)<(J:Int):=λe=>by
  subst e;have:=of_decide_eq_true G;omega
 clear h N H ab G;cases q
 all_goals
  (try have am:=aa rfl)
  clear aa
  go_enter func6,ntmps6
  go_wp2_with (first | (go_at_call 8;(go_call ae.o _ (qa.alloc _ _) as e w1 ⟨rfl,d⟩;obtain⟨d,ao,ap,aq,ar,au,av⟩:=cfq c d;have ag:=κ d;clear d)) | (go_at_call 9;(go_call af.o _ as e w2 ⟨R,rfl,Y,ac⟩;have U:Hid (qa w w2):=κ (ag.o.trans ac);have ad:=κ Y;clear Y ac)) | (go_at_call 10;(go_call O.o _ U.o as e ak ⟨rfl,I⟩;have al:=κ (ad.o.on I);have ah:Hid (qa w ak):=κ (U.o.trans I);clear I)))
  go_ret;exact⟨rfl,ah.o⟩
theorem do8 (s:RmS) (a:A22) (h:a.act=8):(doR s a).2.1=if s.closed then 7 else 0:=by
 unfold doR RmS.shut;rw[h];simp;split<;>rfl
theorem Si (s:RmS):2<=s.workers.length:=by
 unfold RmS.workers yp;simp
theorem Sm (n:Int) (d:1<=n) (G:n<=1000) (w:World):Calls prog 30 #[ι n] w λe w'=>e= .returned (.tuple #[ι (5* n),ι 0])/\qa w w':=by
 go_enter func30,ntmps30
 go_wp2
 go_ret2
 exact⟨rfl,qa.refl _⟩
def WrA (w:World) (wb:Nat) (s:RmS) (y:Nat):Prop:= ∃cs,w.heap[wb]? =some (.cells cs 46 (0,0))/\cs.size=6/\ ∀k,k<y->cs[k]? =some (.int .i64 ((s.ln (k:Int)).W.length:Int))
theorem WrA.zero {w:World} {d:Nat} {s:RmS} (h:w.heap[d]? =some (.cells #[ι 0,ι 0,ι 0,ι 0,ι 0,ι 0] 46 (0,0))):WrA w d s 0:=⟨_,h,rfl,λk G=>by omega⟩
theorem WrA.stay {w w':World} {d:Nat} {s:RmS} {y:Nat} {F:List Nat} (h:WrA w d s y) (t:qw F w w') (J:d∈F):WrA w' d s y:=by
 obtain⟨cs,G,H,I⟩:=h;exact⟨cs,t.blk J G,H,I⟩
theorem WrA.cell {w:World} {d:Nat} {s:RmS} {y:Nat} (h:WrA w d s y) (k:Nat) (J:k<6):(w.cell? ⟨d,k,none⟩).isSome=true/\w.frozen? ⟨d,k,none⟩=false:=by
 obtain⟨cs,G,H,I⟩:=h;refine⟨?_,qd G k⟩;rw[qb G k (v:=cs[k]'τ) (by rw[Array.getElem?_eq_getElem])];rfl
theorem WrA.get {w:World} {d:Nat} {s:RmS} {y:Nat} (h:WrA w d s y) (k:Nat) (I:k<y):w.cell? ⟨d,k,none⟩=some (ι ((s.ln (k:Int)).W.length:Int)):=by
 obtain⟨cs,G,J,H⟩:=h;exact qb G k (H k I)
theorem WrA.set {w:World} {d:Nat} {s:RmS} {y:Nat} (h:WrA w d s y) (J:y<6):WrA (w.setCell ⟨d,y,none⟩ (ι ((s.ln (y:Int)).W.length:Int))) d s (y+1):=by
 obtain⟨cs,H,G,I⟩:=h;refine⟨cs.set! y (ι ((s.ln (y:Int)).W.length:Int)),by simp[World.setCell,Array.getElem?_modify,H],by simp[G],λk N=> ?_⟩;by_cases e:k=y
 ·subst e;simp[G,J]
 ·have:=I k τ;simp[Array.getElem?_setIfInBounds,Ne.symm e,this]
theorem Sn {s s':RmS} (h: ∀x,(qh s'.lanes x).map (·.W)=(qh s.lanes x).map (·.W)) (x:Int):(s'.ln x).W=(s.ln x).W:=by
 have:=h x;unfold RmS.ln;cases e1:qh s'.lanes x<;>cases e2:qh s.lanes x<;>rw[e1,e2] at this<;>simp at this
 exact this
theorem Sk {n:Nat} {s:RmS} (h:qV n s) (x:Int):(s.ln x).W.length<=n:=by
 unfold RmS.ln;cases e:qh s.lanes x with
 | none=>exact Nat.zero_le _
 | some l=>exact h.num.wr x l e
theorem Se (s:RmS) (acc:Bool) (L:List Og) (j:Nat) (h:j<L.length):s.picks acc (L.take (j+1))=((s.picks acc (L.take j)).pick (L[j].1,L[j].2) acc).1:=by
 unfold RmS.picks;rw[List.take_succ_eq_append_getElem h,List.foldl_append];rfl
theorem Sh {n:Nat} {s:RmS} (d:qV n s) (G:wN s):qV (n+1) s.shut.1/\wN s.shut.1/\s.shut.1.closed=true/\s.shut.1.lanes=s.lanes/\s.shut.2=if s.closed then 7 else 0:=by
 refine⟨d.shut,IP G d.ow ⟨8,0,0,0,[],(0,0),false,0,0,0,0,0,0⟩, ?_⟩;unfold RmS.shut;split
 ·rename_i h;exact⟨h,rfl,rfl⟩
 ·exact⟨rfl,rfl,rfl⟩
theorem Sg {s:RmS} (h:s.closed=true):s.arrive []=(s,7)/\s.tick=(s,7)/\s.join 0 0 0 0=(s,7):=by
 unfold RmS.arrive RmS.tick RmS.join;rw[h];exact⟨rfl,rfl,rfl⟩
theorem Sl {I w:World} {R:Nat} {s:RmS} {F:List Nat} (h:RmR I w R s F) (x:Int) (H: ∀x l,qh s.lanes x=some l->l.A=[]/\l.B=[]/\l.C=[]):Calls prog 24 #[γ R,ι x] w λe w'=>
  ∃c1 c2 g t,e= .returned (.tuple #[θ #[ι c1,ι c2],θ #[ι 0,ι 0,ι 0],g,t])/\qa w w':=by
 have e0:(s.ln x).A=[]/\(s.ln x).B=[]/\(s.ln x).C=[]:=by
  unfold RmS.ln;cases e:qh s.lanes x with
  | none=>exact⟨rfl,rfl,rfl⟩
  | some l=>exact H x l e
 refine(Ha h x rfl rfl).mono λe w' d=>⟨(s.ln x).cur,(s.ln x).tgt,(s.ln x).gone,(qh s.lanes x).isSome, ?_,d.2⟩
 have G:=d.1;rw[e0.1,e0.2.1,e0.2.2] at G;exact G
theorem R9 (c:CfR) (v:Value) (l:List A22) (os:Option Addr) (cs:Nat) (M:List Og) (acc:Bool) (w:World) {dB:Int} (ab:w.cell? ⟨NW,0,none⟩=some (ι dB)) (U:Lib.TabIs prog w EF .u64 Lib.pow10Tab) (h:xY c=true) (br:SlP 14 uh w v l) (bl:yk l=false) (cO:SlP 2 RO w (δ os M.length cs) M) (dv:M.length<=20):
  Calls prog 6 #[θ #[ι c.room,ι c.hold,ι c.wait,ι c.space,ι c.retry,ι c.most],v,δ os M.length cs,acc] w λe w'=>e= .returned (μ true)/\qa w w':=by
 have de:=κ (JN c h);have bL:=κ (uQ h);have bD:Hid (wN (ud c)):=κ (wN.nil rfl);have bH:=κ (λw1 (ag:qa w w1)=>uS v l w1 (br.keep kj ag));rw[bl] at bH;have db:=κ (λw' (m:qa w w')=>Ol w' (by rw[m.cells _ _ (Gb ab).2];exact ab) (V2 U m));have dg:=κ cO;obtain⟨dX,cap,rfl,dO,cq⟩:=Yt br;have bC:=κ cq;have bb:=κ (Xj bl);have dL:l.length<=120:=bb.o.1;clear h br bl cq ab U cO
 go_enter func6,ntmps6
 go_wp2_with (first | (go_at_call 8;(go_call db.o _ (qa.alloc _ _) as e w1 ⟨rfl,ag⟩;obtain⟨ag,dY,dZ,ea,eb,ec,ed⟩:=cfq c ag;have av:=κ ag;clear ag)) | (go_at_call 9;(go_call de.o _ as e w2 ⟨R,rfl,cf,aD⟩;have bZ:Hid (qa w w2):=κ (av.o.trans aD);have ak:=κ cf;clear cf aD)) | (go_at_call 10;(go_call bH.o _ bZ.o as e cU ⟨rfl,ah⟩;have aH:=κ (ak.o.on ah);have dE:Hid (qa w cU):=κ (bZ.o.trans ah);clear ah)))
 go_loopw [11,50] (λu i wr=> ∃j:Nat,j<=l.length/\i= ι j/\ ∃s,u= μ (!s.closed)/\RmR w1 wr R s []/\qV j s/\wN s) (λ_ i _=>l.length-(intOf i).toNat)
 case atStart=>exact⟨0,τ,rfl,_,rfl,aH.o,bL.o,bD.o⟩
 case round=>
  obtain⟨j,aB,rfl,s,rfl,H,cv,cr⟩:=hrel;have d:=κ H;have af:=κ cv;have ba:=κ cr;clear H cv cr ak aH bL bD;by_cases hlt:j<l.length
  ·obtain⟨b,dC,aE,aC,rfl,I,U,cE,cA,cC,cB,cG⟩:=bC.o j hlt;have bQ:=κ (U wr (av.o.trans d.o.more));have bJ:=κ (bb.o.2 j hlt);have bR:=κ (cE.keep ((av.o.trans d.o.more).al (.cells #[ι (l.getD j jv).act,ι (l.getD j jv).sub,ι (l.getD j jv).pub,ι (l.getD j jv).layer,δ aE (l.getD j jv).b.length aC,ι (l.getD j jv).w.1,ι (l.getD j jv).w.2,μ (l.getD j jv).acc,ω (l.getD j jv).own,ω (l.getD j jv).stamp,φ (l.getD j jv).seq,ω (l.getD j jv).s0,ω (l.getD j jv).s1,ω (l.getD j jv).s2] 42)));have aW:=κ cA;have bU:=κ cC;have bP:=κ cB;have bS:=κ cG;have dw:(j:Int)<(l.length:Int):=by omega
   clear U cE cA cC cB cG I;generalize l.getD j jv=x at *;have aN:=κ (d.o.adds (Fn:=[wr.heap.size]) (qa.alloc wr (.cells #[ι x.act,ι x.sub,ι x.pub,ι x.layer,δ aE x.b.length aC,ι x.w.1,ι x.w.2,x.acc,ω x.own,ω x.stamp,φ x.seq,ω x.s0,ω x.s1,ω x.s2] 42)) (λb I=>(by simp at I;subst I;simp)));have bw:=κ (qj wr (.cells #[ι x.act,ι x.sub,ι x.pub,ι x.layer,δ aE x.b.length aC,ι x.w.1,ι x.w.2,x.acc,ω x.own,ω x.stamp,φ x.seq,ω x.s0,ω x.s1,ω x.s2] 42));have aY:=κ (HV aN.o af.o τ x aE aC bR.o aW.o bJ.o bP.o bU.o);have ar:=κ (KZ af.o d.o.tkeys x aW.o bJ.o bS.o);have aq:=κ (IP ba.o af.o.ow x);have aJ:=κ (UY (s:=s) x);have bA:=κ (do8 s x);obtain⟨s2,bm⟩:=ν ((doR s x).1);obtain⟨du,bk⟩:=ν ((doR s x).2.1);obtain⟨bh,aU⟩:=ν (s.closed);rw[bm,bk] at aY;rw[bm] at ar aq aJ;rw[bk,aU] at bA;rw[aU] at aJ
   (try rw[aU])
   clear bm bk aU
   go_upto_region 11 with (first | (refine wpList_load_mid rfl 42 (.tmp 52) rfl b (dC+j* 14) rfl [ι x.act,ι x.sub,ι x.pub,ι x.layer,δ aE x.b.length aC,ι x.w.1,ι x.w.2,x.acc,ω x.own,ω x.stamp,φ x.seq,ω x.s0,ω x.s1,ω x.s2] _ bQ.o underlying42 rfl ξ ?_) | (go_at_call 12;(go_call aY.o as e w5 ⟨rfl,ay,t5⟩;have ad:=κ (ay.sub (F':=[]) η);have bv:=κ (t5.blk η bw.o);clear ay t5)))
   have ce:=β0 bv.o;clear aY bR bQ aW bU bP bS bw aN bv;by_cases h8:x.act=8
   ·have dt:=bA.o h8;have ax:Hid (s2.closed=true):=κ (by rw[aJ.o,h8];simp);cases bh
    ·obtain rfl:du=0:=dt;go_wp2;go_roundw
     case rel=>exact⟨j+1,τ,by go_num,s2,by rw[ax.o];rfl,ad.o,ar.o,aq.o⟩
     case measure=>simp[intOf];omega
    ·go_wp2;go_roundw
     case rel=>exact⟨j+1,τ,by go_num,s2,by rw[ax.o];rfl,ad.o,ar.o,aq.o⟩
     case measure=>simp[intOf];omega
   ·have ax:Hid (s2.closed=bh):=κ (by rw[aJ.o,decide_eq_false h8,Bool.or_false]);cases bh
    ·go_wp2;go_roundw
     case rel=>exact⟨j+1,τ,by go_num,s2,by rw[ax.o];rfl,ad.o,ar.o,aq.o⟩
     case measure=>simp[intOf];omega
    ·go_wp2;go_roundw
     case rel=>exact⟨j+1,τ,by go_num,s2,by rw[ax.o];rfl,ad.o,ar.o,aq.o⟩
     case measure=>simp[intOf];omega
  ·obtain rfl:j=l.length:=by omega
   have dw: ¬(l.length:Int)<(l.length:Int):=by omega
   obtain⟨cw,cp,co,cx,cn⟩:=Sh af.o ba.o;have aO:=κ (λw' (h':RmR w1 w' R s [wr.heap.size])=>LS h' (s':=s.shut.1) (a:=s.shut.2) rfl);rw[cn] at aO;have bK:Hid (∀x,(s.shut.1.ln x).W=(s.ln x).W):=κ (λx=>by unfold RmS.ln;rw[cx]);have bW:Hid (∀y:Int,(s.ln y).W.length<=1000000):=κ (λy=>by have:=Sk af.o y;omega);obtain⟨bf,cl⟩:=ν (wr.alloc (.cells #[ι 0,ι 0,ι 0,ι 0,ι 0,ι 0] 46));have ca:Hid (qa wr bf):=κ (by rw[<-cl];exact qa.alloc _ _);have aV:Hid (bf.heap[wr.heap.size]? =some (.cells #[ι 0,ι 0,ι 0,ι 0,ι 0,ι 0] 46 (0,0))):=κ (by rw[<-cl];exact qj wr _);have aI:Hid (RmR w1 bf R s [wr.heap.size]):=κ (d.o.adds (Fn:=[wr.heap.size]) ca.o (λb I=>by simp at I;subst I;exact⟨Nat.le_refl _,qn aV.o⟩));generalize s.shut.1=s4 at *;have aL:=κ cw;have aK:=κ cp;have aX:=κ co;clear cw cp co cx cn d af ba bb bC;go_wp2;generalize wr.heap.size=wb at *
   go_loopw [71] (λi Y=> ∃y:Nat,y<=6/\i= ι y/\RmR w1 Y R s [wb]/\WrA Y wb s y) (λi _=>6-(intOf i).toNat)
   case atStart=>exact⟨0,τ,rfl,aI.o,WrA.zero aV.o⟩
   case round=>
    clear aI aV ca;obtain⟨y,dA,rfl,H,aA⟩:=hrel;have d:=κ H;have ap:=κ aA;clear H aA;by_cases hlt6:y<6
    ·have bo:(y:Int)<6:=by omega
     have dj:=κ (MO d.o (y:Int) (bW.o y))
     go_wp2_with ((go_at_call 14;(go_call dj.o as e w6 ⟨⟨v6,rfl,cM⟩,bq⟩;obtain⟨dU,dS,dG,rfl,dz,_⟩:=cM.shape;subst dz;have am:=κ (d.o.on bq);have bs:=κ (ap.o.stay (d.o.stay bq) η);obtain⟨cH,dJ⟩:=bs.o.cell y hlt6;obtain⟨ee,dQ⟩:=Option.isSome_iff_exists.1 cH;clear cM bq cH)))
     go_roundw
     case rel=>exact⟨y+1,τ,by go_num,am.o.mut ((qg.refl _ _).set η _),bs.o.set hlt6⟩
     case measure=>simp[intOf];omega
    ·obtain rfl:y=6:=by omega
     have bo: ¬((6:Nat):Int)<6:=by omega
     obtain⟨dq,bj⟩:=ν (s.closed);rw[bj] at aO
     (try rw[bj])
     have bT:=κ (aO.o _ d.o);clear bj aO;obtain⟨L,aT⟩:=ν (s4.workers);have bc:=κ aT;have dN:L.length<=20:=by rw[<-aT];exact Wx s4
     have dM:2<=L.length:=by rw[<-aT];exact Si s4
     clear aT;cases dq
     all_goals
      go_upto_region 21 with ((go_at_call 28;(go_call bT.o as e O ⟨rfl,ch,cQ⟩;have an:=κ ch;have bt:=κ (ap.o.stay cQ η);clear ch cQ)))
      have bE:Hid (Calls prog 29 #[γ R,ι 5,δ os M.length cs] O λe w'=>(∃v',e= .returned (.tuple #[v',ι ((M.length:Int)+(L.length:Int))])/\je 2 RO (λ_=>False) w' O.heap.size 37 v' (yw L M 5))/\qa O w'):=κ (by
       have h:=Sf an.o 5 ζ (δ os M.length cs) M (dg.o.keep OE (av.o.trans an.o.more)) dv;rw[bc.o] at h
       exact h)
      go_upto_region 22 with ((go_at_call 29;(go_call bE.o as e w8 ⟨⟨v8,rfl,cN⟩,cK⟩;have aw:=κ cN;have bd:=κ cK;clear cN cK)))
      have cj:=NL L M 5;obtain⟨G,bi⟩:=ν (yw L M 5);rw[bi] at aw cj;have bN:=κ bi;obtain⟨dV,dH,rfl,bp⟩:=LP aw.o;have cD:0<G.length:=by omega
      have dP:G.length<=200:=by omega
      obtain⟨N,rfl,-,-⟩:=bp.2 _ (qa.refl _) 0 cD;have ct:O.heap.size<=N:=aw.o.ge rfl;have cu:N<w8.heap.size:=aw.o.lt rfl
      have bz:Hid (∀j (aB:j<G.length),w8.cell? ⟨N,j* 2,none⟩=some (ι G[j].1)/\w8.cell? ⟨N,j* 2+1,none⟩=some (ι G[j].2)):=κ (λj aB=>by
       obtain⟨b,e,ce,ds⟩:=bp.2 _ (qa.refl _) j aB;injection e with e
       injection e with e _ _
       subst e
       exact⟨ce,ds⟩)
      have J:Hid (RmR w1 w8 R s4 [N,wb]):=κ (an.o.adds (Fn:=[N]) bd.o (λb I=>by simp at I;subst I;exact⟨ct,cu⟩));have aj:=κ (bt.o.stay (an.o.stay bd.o) η);have bF:=κ (Sm ((M.length:Int)+(L.length:Int)) τ τ w8);have dK:(5* ((M.length:Int)+(L.length:Int)) != (G.length:Int))=false:=by
       rw[bne_eq_false_iff_eq];omega
      clear cj bi bp ct cu aw bE bT d ap an bt
      go_wp2_with ((go_at_call 30;(go_call bF.o as e w9 ⟨rfl,ai⟩;have ao:=κ (J.o.on ai);have cc:=κ (J.o.stay ai);clear ai)))
      go_loopw [107] (λi Y=> ∃j:Nat,j<=G.length/\i= ι j/\RmR w1 Y R (s4.picks acc (G.take j)) [N,wb]/\qw [N,wb] w8 Y) (λi _=>G.length-(intOf i).toNat)
      case atStart=>exact⟨0,τ,rfl,ao.o,cc.o⟩
      case round=>
       clear ao cc bF;obtain⟨j,aB,rfl,H,U⟩:=hrel;have d:=κ H;have aP:=κ U;clear H U;by_cases hltp:j<G.length
       ·have dx:(j:Int)<(G.length:Int):=by omega
        obtain⟨cd,c1⟩:=bz.o j hltp;rw[<-aP.o.cell (b:=N) η] at cd c1;have bG:=κ (EI acc (G.take j) aL.o aK.o).1;have dy:l.length+1+(G.take j).length<=1000:=by rw[List.length_take];omega
        have aM:=κ (Se s4 acc G j hltp);generalize G[j]=y at *;obtain⟨aF,aG⟩:=y;simp only at cd c1 aM;obtain⟨dp,cm⟩:=ν (((s4.picks acc (G.take j)).pick (aF,aG) acc).2);obtain⟨dD,bn⟩:=ν (s4.picks acc (G.take (j+1)));rw[bn] at aM;have bO:Hid ((s4.picks acc (G.take j)).pick (aF,aG) acc=(dD,dp)):=κ (Prod.ext aM.o.symm cm);have dh:=κ bn;obtain⟨ac,cF⟩:=ν (s4.picks acc (G.take j));rw[cF] at d bG bO;have aN:=κ (d.o.on (qa.alloc wr (.cells #[ι aF,ι aG] 37)));have be:=κ (aP.o.trans (d.o.stay (qa.alloc wr (.cells #[ι aF,ι aG] 37))));clear aM cm bn cF
        go_wp2_with ((go_at_call 31;(go_call F7 aN.o bG.o dy aF aG acc bO.o as e w6 ⟨rfl,az,cP⟩;have am:=κ az;have dk:=κ (be.o.trans cP);clear az cP)))
        go_roundw
        case rel=>exact⟨j+1,τ,by go_num,by rw[dh.o];exact am.o,dk.o⟩
        case measure=>simp[intOf];omega
       ·obtain rfl:j=G.length:=by omega
        have dx: ¬(G.length:Int)<(G.length:Int):=by omega
        have au:=κ (EI acc G aL.o aK.o);have bB:=κ (qq acc G aX.o);have aZ:=OT aL.o aK.o aX.o acc M;rw[bc.o,bN.o] at aZ;rw[List.take_length] at d;generalize s4.picks acc G=ac at *;have ae:=κ (aZ d.o.bkeys d.o.rkeys);have bu:=κ (aj.o.stay aP.o η);have ao:Hid (RmR w1 wr R ac [wb]):=κ (d.o.sub η);have bV:Hid (∀y:Int,(ac.ln y).W.length=(s.ln y).W.length):=κ (λy=>by rw[Sn bB.o.W y,bK.o y]);have cz:l.length+1+G.length<=1000:=by omega
        clear aZ d aP aj J bz cD bB bK bN bc aL aK aX bd aB;go_wp2
        go_loopw [116] (λi Y=> ∃y:Nat,y<=6/\i= ι y/\RmR w1 Y R ac [wb]/\WrA Y wb s 6) (λi _=>6-(intOf i).toNat)
        case atStart=>exact⟨0,τ,rfl,ao.o,bu.o⟩
        case round=>
         clear ao bu;obtain⟨y,dA,rfl,H,aA⟩:=hrel;have d:=κ H;have ap:=κ aA;clear H aA;by_cases hlt6:y<6
         ·have bo:(y:Int)<6:=by omega
          have bI:=κ (Sl d.o (y:Int) ae.o.2.2.2.1)
          go_upto_region 34 with ((go_at_call 24;(go_call bI.o as e O ⟨c1,c2,g,t,rfl,cJ⟩;have cb:=κ cJ;clear cJ)))
          have ab:=cb.o.trans ((qa.alloc O (.cells #[ι c1,ι c2] 103)).al (.cells #[ι 0,ι 0,ι 0] 104));have bY:((O.alloc (.cells #[ι c1,ι c2] 103)).alloc (.cells #[ι 0,ι 0,ι 0] 104)).heap[O.heap.size+1]? =some (.cells #[ι 0,ι 0,ι 0] 104 (0,0)):=qC η;generalize (O.alloc (.cells #[ι c1,ι c2] 103)).alloc (.cells #[ι 0,ι 0,ι 0] 104)=W8 at *;have J:=κ (d.o.on ab);have aj:=κ (ap.o.stay (d.o.stay ab) η);obtain⟨B,bg,ci⟩:=F8 (J.o.on (qa.drewN W8 1)) au.o.1 cz (y:Int) (p:=0) (by rw[ae.o.2.2.2.2];rfl);have bM:=κ ci;have ck:R<W8.heap.size:=(Gb bg).2;have aQ:=λ(x:qt W8)=>qc x.h bY
          have cX:=λx=>β0 (aQ x);have cY:=λx=>β1 (aQ x);have cZ:=λx=>β2 (aQ x);clear aQ
          have cW: ∀x:qt W8,x.w'.cell? ⟨R,0,none⟩=some (π (some ⟨B,0,none⟩)):=λx=>by rw[x.h.cells R 0 ck];exact bg
          have dn: ∀x:qt W8,x.w'.cell? ⟨wb,y,none⟩=some (ι ((s.ln (y:Int)).W.length:Int)):=λx=>by rw[x.h.cells wb y (J.o.lt wb η)];exact aj.o.get y hlt6
          have bx:=λw=>Pw 0 0 0 0 0 0 w
          rw[show (!decide ([(0:Int),0,0]=[0,0,0]))=false from rfl] at bx;clear ci ab bY bg ck cb bI;refine zC W8 23 [(0,false),(1,false),(2,false),(3,false),(4,false),(5,false),(6,false),(7,false),(8,false),(9,true),(10,false),(11,false),(12,false),(13,false),(14,false),(15,false),(18,false),(19,false),(20,false),(16,true),(17,false),(21,false),(22,false)] ξ ξ ?_
          refine Qq9 ?_
          (refine Ql ?_;intro K aa)
          (with_reducible refine bM.o.mono ?_)
          rintro e w9 ⟨⟨dW,dI,rfl⟩,ai⟩;have aS:Hid (qa W8 w9):=κ (((qa.refl W8).dr 1).trans ai);refine⟨_,rfl,qk aS.o,aa _ _ ?_⟩;clear aa K ai
          iterate 9 (refine qE rfl rfl (qk aS.o) ?_;intro K aa;go_big_quiet_op;go_big_quiet_on)
          (refine Ql ?_;intro K aa)
          have bX:=κ (MO (J.o.on aS.o) (y:Int) (by rw[bV.o];exact bW.o y))
          (with_reducible refine bX.o.mono ?_)
          rintro e w10 ⟨⟨v10,rfl,cL⟩,cI⟩;obtain⟨dT,dR,dF,rfl,cy,_⟩:=cL.shape;rw[bV.o] at cy;subst cy;have aR:Hid (qa W8 w10):=κ (aS.o.trans cI);refine⟨_,rfl,qk aR.o,aa _ _ ?_⟩;clear aa K cI cL
          iterate 3 (refine qE rfl rfl (qk aR.o) ?_;intro K aa;go_big_quiet_op;go_big_quiet_on)
          refine qA ?_;have da:=κ (J.o.on aR.o);have cV:=κ (aj.o.stay (J.o.stay aR.o) η);clear cX cY cZ cW dn bx bM bX;go_wp2;go_roundw
          case rel=>exact⟨y+1,τ,by go_num,da.o,cV.o⟩
          case measure=>simp[intOf];omega
         ·obtain rfl:y=6:=by omega
          have bo: ¬((6:Nat):Int)<6:=by omega
          have di:=κ (Yn d.o (a:=0) (b:=0) (by rw[ae.o.1];rfl) (by rw[ae.o.2.1];rfl));have df:=κ (Eo au.o.2 d.o.rkeys)
          have dc:Hid (ac.closed=true):=κ (by
           have h:=ae.o.2.2.1;unfold RmS.ended at h;rw[Bool.and_eq_true] at h
           exact h.1)
          obtain⟨cR,cT,cS⟩:=Sg dc.o;have be:=κ cR;have dm:=κ cT;have dl:=κ cS;have dd:Hid (0<=ac.cnt.lost/\ac.cnt.lost<=1000000000):=κ (by have:=au.o.1.num.lost;omega);clear cR cT cS
          go_wp2_with (first | (go_at_call 23;(go_call di.o as e w2 ⟨rfl,aD⟩;have ak:=κ (d.o.on aD);clear aD)) | (go_at_call 32;(go_call KY ak.o df.o ae.o.2.2.1 as e cU ⟨rfl,ah⟩;have aH:=κ (ak.o.on ah);clear ah)) | (go_at_call 33;(go_call LC aH.o [] (δ none 0 0) (SlI.nil _ _) xh ζ dd.o be.o as e w4 ⟨rfl,cg,_⟩;have aI:=κ cg;clear cg)) | (go_at_call 34;(go_call F5 aI.o au.o.1 cz dm.o as e w5 ⟨rfl,ay,_⟩;have ad:=κ ay;clear ay)) | (go_at_call 35;(go_call Me ad.o au.o.1.num.cfg 0 0 0 0 ⟨ζ,ζ⟩ ⟨ζ,ζ⟩ dl.o as e w6 ⟨rfl,az,_⟩;have am:=κ az;clear az)))
          go_ret;exact⟨rfl,av.o.trans am.o.more⟩
theorem Sc (cs:Array Value) (c:CfR) (v:Value) (l:List A22) (J:Value) (M:List Og) (acc:Bool) (w:World) {N:Int} (d:w.cell? ⟨NW,0,none⟩=some (ι N)) (G:Lib.TabIs prog w EF .u64 Lib.pow10Tab) (O:KL w cs.toList c) (H:SlP 14 uh w v l) (I:SlP 2 RO w J M):
  Calls prog 6 #[θ cs,v,J,acc] w λe w'=>e= .returned (μ true)/\qa w w':=by
 obtain rfl:cs= #[ι c.room,ι c.hold,ι c.wait,ι c.space,ι c.retry,ι c.most]:=Array.toList_inj.1 O;obtain⟨os,U,rfl,_⟩:=id I;cases hc:xY c with
 | false=>
  obtain⟨Y,cap,rfl,_⟩:=id H;exact Sd c _ _ _ _ _ _ _ w d G hc
 | true=>
  cases hl:(yk l||decide (20<M.length)) with
  | true=>exact R7 c v l _ _ _ _ w d G hc H hl
  | false=>
   rw[Bool.or_eq_false_iff] at hl;exact R9 c v l _ _ M _ w d G hc H hl.1 I (by have:=of_decide_eq_false hl.2;omega)
end Go.Proofs.YtlmllmonabafjaaGreatDoor
