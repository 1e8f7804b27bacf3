/- Contracts and plain laws. -/
import Derived.Test.YtlmllmonabafjaaGreatDoorMg8
import Derived.ChangeKeysEq
import Derived.Outline
namespace Go.Proofs.YtlmllmonabafjaaGreatDoor
open Go.Value renaming bool->μ,slice->δ,pointer->π,agg->θ
open Go.IntKind renaming i64->ι,u8->υ,u16->φ,u32->ω,i32->χ,u64->ψ
open _root_.Go.Proofs.Tryz
set_option linter.unusedSimpArgs false
set_option maxHeartbeats 8000000
set_option linter.unusedVariables false
open Go.RowKit
set_option maxRecDepth 100000
theorem Ln (w:World) (R A room first:Nat) (q:List (List Value)) (N O I J:Int) (css:List (List Value)) (h:zT w R A room first q N O I J css) (ao: ∀c∈q,∃G n cp,c=[δ G n cp]):
  Calls prog 124 #[γ R] w λe w'=> ∃v,e= .returned v/\w'.ownsRow w.heap.size 35 1 v q.length q.flatten/\(∃first' cg' css',zT w' R A room first' [] N O I cg' css')/\qg (RgB R A) w w':=by
 obtain⟨aJ,aK,aL,aM,aN⟩:=info_parts (P:=prog) (e:=35) (z:= δ none 0 0) (size:=1) (bytes:=24) ξ;have aw:=κ h;have aR:R<w.heap.size:=ql h.ring;have aQ:A<w.heap.size:=ql h.row;have aW:w.cell? ⟨R,2,none⟩=some (ι q.length):=qb h.ring 2 rfl;have aU:(q.length:Int)<=8:=by have:=h.fits;have:=h.pos.2;omega
 have aC:=κ ao;clear h ao
 go_enter func124,ntmps124
 go_wp2
 go_loopw [3,8] (λu ag wr=> ∃(j f:Nat) (cs:List (List Value)),j<=q.length/\ag= ι j/\(∃ar aq ak,u= δ ar aq ak)/\wr.ownsRow w.heap.size 35 1 u j (q.take j).flatten/\zT wr R A room f (q.drop j) N O I J cs/\qg (RgB R A) w wr) (λ_ ag _=>q.length-(intOf ag).toNat)
 case atStart=>exact⟨0,first,css,τ,rfl,⟨_,_,_,rfl⟩,World.ownsRow_nil w _ _ _,aw.o,qg.refl _ _⟩
 case round=>
  obtain⟨j,f,cs,aS,rfl,⟨ar,aq,ak,rfl⟩,d,ap,am⟩:=hrel;have ah:=κ d;have H:=κ ap;have ab:=κ am;clear d ap am;by_cases hlt:j<q.length
  ·have ad:q.drop j=q[j]::q.drop (j+1):=List.drop_eq_getElem_cons hlt;have af:q.take (j+1)=q.take j++[q[j]]:=by rw[List.take_add_one,List.getElem?_eq_getElem hlt];rfl
   obtain⟨G,aa,Y,an⟩:=aC.o q[j] (List.getElem_mem hlt);have aT:(j:Int)<(q.length:Int):=by omega
   rw[an] at ad af;have az:=κ (ad▸H.o);have aA:=κ af;clear ad af H an
   go_wp2_with (first | (go_at_call 140;(go_call D7 wr R A room f G aa Y (q.drop (j+1)) N O I J cs az.o as e w5 ⟨rfl,al,a5⟩;have ax:=κ al;have au:=κ a5;have U:=κ (zI ah.o a5 (λb ac e=>by rcases e with e | e<;>omega));have aD:Hid (w.heap.size<=w5.heap.size):=κ (Nat.le_trans ab.o.size a5.size);clear al a5)) | (at_builtin;(refine wpList_append_own_at _ rfl (.tmp 10) (.tmp 13) 225 rfl w.heap.size 35 aJ (δ none 0 0) 1 24 underlying225 aK aL aM aN rfl ζ _ j (q.take j).flatten rfl (zI U.o (qg.of_more (qa.alloc _ _)) (λb _ e=>e)) ⟨w5.heap.size,0,none⟩ 1 1 [δ G aa Y] rfl rfl (λi u aG=>by have:=xw (cs:=[δ G aa Y]) (t:=35) (qk w5 (.cells #[δ G aa Y] 35)) i u aG;rw[Addr.add_mid];exact this) (by simp[Value.oneCell']) (by unfold maxLen;omega) τ (by have:=aD.o;simp;omega) ?_;intro aY w6 d ae aE aH;have aB:=κ d;have av:Hid (qg (RgB R A) w w6):=κ (((ab.o.trans au.o).alc _).grown ae (λb ac=>kf U.o ac));have ay:Hid (zT w6 R A room ((f+1)%room) (q.drop (j+1)) N O I J (cs.set f [δ none 0 0])):=κ ((ax.o.more (qa.alloc _ _)).away (qg.of_grown ae) (λe=>by have:=kf U.o e;omega) (λe=>by have:=kf U.o e;omega));obtain⟨aV,aO,rfl⟩:=zz d;clear d ae aE aH)))
   go_roundw
   case rel=>exact⟨j+1,(f+1)%room,_,τ,by go_num,⟨_,_,_,rfl⟩,by rw[aA.o,List.flatten_append];simpa using aB.o,ay.o,av.o⟩
   case measure=>simp[intOf];omega
  ·obtain rfl:j=q.length:=by omega
   have aX:wr.cell? ⟨R,7,none⟩=some (ι J):=qb H.o.ring 7 rfl;have aP:wr.frozen? ⟨R,7,none⟩=false:=qd H.o.ring 7;go_wp2;go_ret;have aI:q.drop q.length=[]:=by simp
   have aF:q.take q.length=q:=by simp
   have aj:=H.o;have ai:=ah.o;rw[aI] at aj;rw[aF] at ai;exact⟨_,rfl,zI ai ((qg.refl (λb=>b=R) _).set rfl _) (λb ac e=>by omega),⟨_,_,_,aj.drained _⟩,ab.o.set (Or.inl rfl) _⟩
theorem UJ (w:World) (R A room first:Nat) (q:List (List Value)) (J ac aa ab:Int) (css:List (List Value)) (h:zT w R A room first q J ac aa ab css) (az:q.length<room) (O:Option Addr) (Y U:Nat):
  Calls prog 83 #[γ R,δ O Y U] w λe w'=>e= .returned (.tuple #[δ none 0 0,false,ι 0])/\(∃ci' cd',zT w' R A room first (q++[[δ O Y U]]) ci' ac cd' ab (css.set ((first+q.length)%room) [δ O Y U]))/\qg (RgB R A) w w':=by
 have ag:=κ h;have aB:w.cell? ⟨R,3,none⟩=some (μ false):=qb h.ring 3 rfl;have ay:decide (q.length=room)=false:=by simp;omega
 clear h
 go_enter func83,ntmps83
 go_wp2_with (go_at_call 139;(go_call Ic ag.o as e am ⟨rfl,aJ,aj⟩;rw[ay];have ae:Hid (qa w am):=κ (by rw[aj];exact qa.drewN _ _);clear aj))
 obtain⟨G,ad⟩: ∃G,G=am:=⟨_,rfl⟩;have d:Hid (zT G R A room first q J ac aa ab css):=κ (by rw[ad];exact ag.o.more ae.o);have af:Hid (qg (RgB R A) w G):=κ (by rw[ad];exact qg.of_more ae.o);have aA:q.length<room:=az;rw[<-ad];clear ad ae aB;obtain⟨f,ai⟩: ∃f,Hid (f=first):=⟨_,κ rfl⟩;obtain⟨cs,ah⟩: ∃cs,Hid (cs=css):=⟨_,κ rfl⟩;rw[<-ai.o,<-ah.o] at d;have ao: ∀x:qp G,x.w'.cell? ⟨R,0,none⟩=some (δ (some ⟨A,0,none⟩) room room):=λx=>x.cell (ql d.o.ring) (qb d.o.ring 0 rfl)
 have ap: ∀x:qp G,x.w'.cell? ⟨R,1,none⟩=some (ι f):=λx=>x.cell (ql d.o.ring) (qb d.o.ring 1 rfl)
 have aq: ∀x:qp G,x.w'.cell? ⟨R,2,none⟩=some (ι q.length):=λx=>x.cell (ql d.o.ring) (qb d.o.ring 2 rfl)
 have aG:((f:Int)+(q.length:Int))%(room:Int)=(((f+q.length)%room:Nat):Int):=by rw[Int.natCast_emod];rfl
 have ax:(f+q.length)%room<room:=Nat.mod_lt _ τ;have hi:(((f+q.length)%room:Nat):Int)<(room:Int):=by omega
 have aH:=d.o.pos;have aE:=d.o.fst;have aF:(f:Int)<=8:=by omega
 have aI:(q.length:Int)<=8:=by omega
 obtain⟨v0,_,au⟩:=d.o.cellY ax;have av:G.frozen? ⟨A,(f+q.length)%room,none⟩=false:=qd d.o.row _;generalize aw:(f+q.length)%room=I at *;refine Qn G 21 22 [21] ?_
 refine Mk ?_
 (refine Qe ?_;intro K ak)
 refine ak _ _ ?_;clear ak K ao ap aq;refine qv ?_;obtain⟨W6,N⟩:=ν ((G.drewN 1).setCell ⟨A,I,none⟩ (δ O Y U));have an:Hid (qg (RgB R A) w W6):=κ (by rw[<-N];exact(af.o.drewN 1).set (Or.inr rfl) _);have H:Hid (W6.heap[R]? =some (.cells (jR A room f q.length J ac aa ab) 229 (0,0))):=κ (by rw[<-N];exact qm (qn d.o.ring 1) _ _ d.o.ne);have ar:Hid (W6.heap[A]? =some (.cells (cs.set I [δ O Y U]).flatten.toArray 35 (0,0))):=κ (by rw[<-N];exact(d.o.more (qa.drewN G 1)).setY I _)
 (try rw[N])
 clear N af au av;have aK:W6.cell? ⟨R,2,none⟩=some (ι q.length):=qb H.o 2 rfl;have aC:W6.frozen? ⟨R,2,none⟩=false:=qd H.o 2;have aL:W6.cell? ⟨R,4,none⟩=some (ι J):=qb H.o 4 rfl;have aD:W6.frozen? ⟨R,4,none⟩=false:=qd H.o 4;go_wp2;refine bodyPost_ret (v:= .tuple #[δ none 0 0,false,ι 0]) (by simp[results,results83,go_sem]) rfl ?_;have al:R≠A:=d.o.ne;subst aw;obtain rfl:=ai.o;obtain rfl:=ah.o;refine⟨rfl,⟨wrap64 (J+1),aa,d.o.put aA ⟨rfl,by simp[Value.oneCell']⟩ ?_ ?_⟩,(an.o.set (Or.inl rfl) _).set (Or.inl rfl) _⟩
 ·exact qA (qo (qo H.o 2 _) 4 _) rfl
 ·exact qm (qm ar.o _ _ (Ne.symm al)) _ _ (Ne.symm al)
theorem UK (w:World) (R A room first:Nat) (N:Option Addr) (U O:Nat) (T:List (List Value)) (J ab H aa:Int) (css:List (List Value)) (h:zT w R A room first ([δ N U O]::T) J ab H aa css) (ai:([δ N U O]::T).length=room) (ad:Option Addr) (af ae:Nat):
  Calls prog 83 #[γ R,δ ad af ae] w λe w'=>e= .returned (.tuple #[δ N U O,true,ι 0])/\(∃ci' cd',zT w' R A room ((first+1)%room) (T++[[δ ad af ae]]) ci' ab cd' aa ((css.set first [δ none 0 0]).set ((((first+1)%room)+T.length)%room) [δ ad af ae]))/\qg (RgB R A) w w':=by
 have am:=κ h;have aI:w.cell? ⟨R,3,none⟩=some (μ false):=qb h.ring 3 rfl;have aG:decide (([δ N U O]::T).length=room)=true:=by simp at ai ⊢;exact ai
 clear h
 go_enter func83,ntmps83
 go_wp2_with (first | (go_at_call 139;(go_call Ic am.o as e av ⟨rfl,aS,aq⟩;rw[aG];have aj:Hid (qa w av):=κ (by rw[aq];exact qa.drewN _ _);clear aq)) | (go_at_call 140;(go_call D7 av R A room first N U O T J ab H aa css (am.o.more aj.o) as e w5 ⟨rfl,ag,a5⟩;have an:=κ ag;have ak:Hid (qg (RgB R A) w w5):=κ ((qg.of_more aj.o).trans a5);have aJ:w5.cell? ⟨R,6,none⟩=some (ι H):=qb ag.ring 6 rfl;have aD:w5.frozen? ⟨R,6,none⟩=false:=qd ag.ring 6;clear ag a5)))
 obtain⟨G,ah⟩:=ν (w5.setCell ⟨R,6,none⟩ (ι (wrap64 (H+1))));have d:Hid (zT G R A room ((first+1)%room) T J ab (wrap64 (H+1)) aa (css.set first [δ none 0 0])):=κ (by rw[<-ah];exact an.o.dropped _);have al:Hid (qg (RgB R A) w G):=κ (by rw[<-ah];exact ak.o.set (Or.inl rfl) _);have aH:T.length<room:=by simp at ai;omega
 (try rw[ah])
 clear ah aj an ak aJ aD aI ai;obtain⟨f,ap⟩: ∃f,Hid (f=((first+1)%room)):=⟨_,κ rfl⟩;obtain⟨cs,ao⟩: ∃cs,Hid (cs=(css.set first [δ none 0 0])):=⟨_,κ rfl⟩;rw[<-ap.o,<-ao.o] at d;have ax: ∀x:qp G,x.w'.cell? ⟨R,0,none⟩=some (δ (some ⟨A,0,none⟩) room room):=λx=>x.cell (ql d.o.ring) (qb d.o.ring 0 rfl)
 have ay: ∀x:qp G,x.w'.cell? ⟨R,1,none⟩=some (ι f):=λx=>x.cell (ql d.o.ring) (qb d.o.ring 1 rfl)
 have az: ∀x:qp G,x.w'.cell? ⟨R,2,none⟩=some (ι T.length):=λx=>x.cell (ql d.o.ring) (qb d.o.ring 2 rfl)
 have aP:((f:Int)+(T.length:Int))%(room:Int)=(((f+T.length)%room:Nat):Int):=by rw[Int.natCast_emod];rfl
 have aF:(f+T.length)%room<room:=Nat.mod_lt _ τ;have hi:(((f+T.length)%room:Nat):Int)<(room:Int):=by omega
 have aQ:=d.o.pos;have aM:=d.o.fst;have aN:(f:Int)<=8:=by omega
 have aO:0<=(f:Int):=by omega
 have aR:(T.length:Int)<=8:=by omega
 obtain⟨v0,_,aB⟩:=d.o.cellY aF;have aC:G.frozen? ⟨A,(f+T.length)%room,none⟩=false:=qd d.o.row _;generalize aE:(f+T.length)%room=I at *;refine Qn G 21 22 [21] ?_
 refine Mk ?_
 (refine Qe ?_;intro K ar)
 refine ar _ _ ?_;clear ar K ax ay az;refine qv ?_;obtain⟨W6,ac⟩:=ν ((G.drewN 1).setCell ⟨A,I,none⟩ (δ ad af ae));have aw:Hid (qg (RgB R A) w W6):=κ (by rw[<-ac];exact(al.o.drewN 1).set (Or.inr rfl) _);have Y:Hid (W6.heap[R]? =some (.cells (jR A room f T.length J ab (wrap64 (H+1)) aa) 229 (0,0))):=κ (by rw[<-ac];exact qm (qn d.o.ring 1) _ _ d.o.ne);have aA:Hid (W6.heap[A]? =some (.cells (cs.set I [δ ad af ae]).flatten.toArray 35 (0,0))):=κ (by rw[<-ac];exact(d.o.more (qa.drewN G 1)).setY I _)
 (try rw[ac])
 clear ac al aB aC;have aT:W6.cell? ⟨R,2,none⟩=some (ι T.length):=qb Y.o 2 rfl;have aK:W6.frozen? ⟨R,2,none⟩=false:=qd Y.o 2;have aU:W6.cell? ⟨R,4,none⟩=some (ι J):=qb Y.o 4 rfl;have aL:W6.frozen? ⟨R,4,none⟩=false:=qd Y.o 4;go_wp2;refine bodyPost_ret (v:= .tuple #[δ N U O,true,ι 0]) (by simp[results,results83,go_sem]) rfl ?_;have au:R≠A:=d.o.ne;subst aE;obtain rfl:=ap.o;obtain rfl:=ao.o;refine⟨rfl,⟨wrap64 (J+1),wrap64 (H+1),d.o.put aH ⟨rfl,by simp[Value.oneCell']⟩ ?_ ?_⟩,(aw.o.set (Or.inl rfl) _).set (Or.inl rfl) _⟩
 ·exact qA (qo (qo Y.o 2 _) 4 _) rfl
 ·exact qm (qm aA.o _ _ (Ne.symm au)) _ _ (Ne.symm au)
section
variable {P:Program} {t e:TypeId} {q:IntKind}
theorem Di (d:P.underlying e=some (.int q)) (n:Nat) (a b:Int) (w:World):(Op.equalIn (n+1) e (.int q a) (.int q b)).run P w= .ok (decide (a=b)) w:=by
 unfold Op.equalIn;rw[Sem.run_bind,run_underlying d];simp[Result.andThen,Sem.run,pure];rw[Bool.eq_iff_iff];simp
theorem Vz (d: ∀w,(isAgg e).run P w= .ok false w) (cs:Array Value) (i:Nat) (v:Value) (w:World) (h:cs[i]? =some v):(part e cs i).run P w= .ok v w:=by
 unfold part;rw[Sem.run_bind,d];simp[Result.andThen,h,Sem.run,pure]
theorem wX (G:P.underlying e=some (.int q)) (d: ∀w,(isAgg e).run P w= .ok false w) (n:Nat) (la lb:List Int) (w:World): ∀(is:List Nat),(∀i∈is,i<la.length/\i<lb.length)->
  (Op.eqItems (n+1) e 1 (la.map (Value.int q)).toArray (lb.map (Value.int q)).toArray is).run P w= .ok (decide (∀i∈is,la.getD i 0=lb.getD i 0)) w
 | [],_=>by simp[Op.eqItems,Sem.run,pure]
 | i::is,h=>by
  obtain⟨H,I⟩:=h i List.mem_cons_self;have N:=wX G d n la lb w is (λj J=>h j (List.mem_cons_of_mem _ J));unfold Op.eqItems;rw[Sem.run_bind,Vz d _ _ (.int q (la.getD i 0)) w (by simp[H])];simp only[Result.andThen_ok];rw[Sem.run_bind,Vz d _ _ (.int q (lb.getD i 0)) w (by simp[I])];simp only[Result.andThen_ok];rw[Sem.run_bind,Di G];simp only[Result.andThen_ok];by_cases e:la.getD i 0=lb.getD i 0
  ·rw[decide_eq_true e];simp only[Bool.not_true,Bool.false_eq_true,if_false,N]
   congr 1
   rw[Bool.eq_iff_iff];simp only[decide_eq_true_eq,List.forall_mem_cons];exact⟨λh=>⟨e,h⟩,λh=>h.2⟩
  ·rw[decide_eq_false e];simp only[Bool.not_false,if_true];have: ¬ ∀j∈i::is,la.getD j 0=lb.getD j 0:=λh=>e (h i List.mem_cons_self)
   rw[decide_eq_false this];rfl
theorem VR {n:Nat} {la lb:List Int} (H:la.length=n) (I:lb.length=n):(∀i∈List.range n,la.getD i 0=lb.getD i 0)↔la=lb:=by
 constructor
 ·intro h;refine List.ext_getElem τ λi d G=> ?_
  have:=h i (List.mem_range.2 τ)
  simpa [d,G] using this
 ·rintro rfl i _;rfl
theorem NE {n:Nat} {i:TypeInfo} (N:P.underlying t=some (.array n e)) (hi:P.info? e=some i) (I:P.cellsOf e=1) (J:P.underlying e=some (.int q)) (d: ∀w,(isAgg e).run P w= .ok false w) (la lb:List Int) (G:la.length=n) (H:lb.length=n) (w:World):
  (binOp .eql t (θ (la.map (Value.int q)).toArray) (θ (lb.map (Value.int q)).toArray)).run P w= .ok (μ (decide (la=lb))) w:=by
 rw[run_eql_struct,show (10000:Nat)=9998+1+1 from rfl,run_equalIn_array w (9998+1) _ _ N hi,I,wX J d 9998 la lb w _ (λi hi=>by have:=List.mem_range.1 hi;omega)];simp only[Result.andThen_ok]
 congr 2
 rw[Bool.eq_iff_iff];simp only[decide_eq_true_eq];exact VR G H
theorem F7 {n:Nat} {i:TypeInfo} (N:P.underlying t=some (.array n e)) (hi:P.info? e=some i) (I:P.cellsOf e=1) (J:P.underlying e=some (.int q)) (d: ∀w,(isAgg e).run P w= .ok false w) (la lb:List Int) (G:la.length=n) (H:lb.length=n) (w:World):
  (binOp .neq t (θ (la.map (Value.int q)).toArray) (θ (lb.map (Value.int q)).toArray)).run P w= .ok (μ (!decide (la=lb))) w:=by
 rw[run_neq_struct,show (10000:Nat)=9998+1+1 from rfl,run_equalIn_array w (9998+1) _ _ N hi,I,wX J d 9998 la lb w _ (λi hi=>by have:=List.mem_range.1 hi;omega)];simp only[Result.andThen_ok]
 congr 3
 rw[Bool.eq_iff_iff];simp only[decide_eq_true_eq];exact VR G H
end
section
open Go.RowKit Go.Lib
theorem V2 {n:Nat}: ∀(css:List (List Value)) (i j:Nat),(∀c∈css,c.length=n)->i<css.length->j<n->css.flatten[i* n+j]? =(css.getD i [])[j]?
 | [],_,_,_,h,_=>absurd h η
 | c::css,0,j,hl,_,hj=>by
  have:=hl c η;rw[List.flatten_cons,Nat.zero_mul,Nat.zero_add,List.getElem?_append_left τ];rfl
 | c::css,i+1,j,hl,hi,hj=>by
  have d:=hl c η;rw[List.flatten_cons,List.getElem?_append_right (by rw[d,Nat.add_mul];omega),d,show (i+1)* n+j-n=i* n+j by rw[Nat.add_mul];omega];exact V2 css i j (λG H=>hl G (by simp[H])) (by simpa using hi) hj
def aB:List Int:=[128,201,0,1,0,0,0,5,129,206,0,2,0,0,0,0,0,0,0,7,132,206,0,6,0,0,0,0,0,0,0,0,0,0,0,8,0,0,0,0,0,0,0,9,0,0,0,0,129,205,0,3,0,0,0,0,0,0,0,7,0,1,0,1,128,203,0,0]
end
theorem Vy {α:Type} (d:α) (p:Nat->α->Prop): ∀m,(∀i,i<m-> ∃c,p i c)-> ∃l:List α,l.length=m/\ ∀i,i<m->p i (l.getD i d)
 | 0,_=>⟨[],rfl,λi hi=>absurd hi τ⟩
 | m+1,h=>by
  obtain⟨l,G,I⟩:=Vy d p m λi hi=>h i τ
  obtain⟨c,H⟩:=h m τ;refine⟨l++[c],by simp[G],λi hi=> ?_⟩;by_cases e:i<m
  ·have:=I i e;rw[List.getD_eq_getElem?_getD] at this ⊢;rw[List.getElem?_append_left τ];exact this
  ·obtain rfl:i=m:=by omega
   rw[List.getD_eq_getElem?_getD,List.getElem?_append_right τ,G]
   simpa using H
theorem V0 {n:Nat}: ∀(css:List (List Value)),(∀c∈css,c.length=n)->css.flatten.length=css.length* n
 | [],_=>by simp
 | c::css,h=>by
  rw[List.flatten_cons,List.length_append,V0 css λd G=>h d (by simp[G]),h c η,List.length_cons,Nat.add_mul];omega
section
open _root_.Go.Proofs.YtlmllmonabafjaaGreatDoor renaming Vy->Ξa,V0->Ξb,V2->Ξc
theorem gk {P:Program} (Y w:World) {ops:Array Oper} {rest:List Oper} {o:Oper} {a:Act} {Q:Exit->Act->World->Prop} (an:o.guard=none) (s x:Operand) (t:TypeId)
  (ap:o.op= .call {callee:= .builtin .append,args:= #[s,x],argTypes:= #[t,t]})
  (base:Nat) (e:TypeId) (i:TypeInfo) (z:Value) (n bytes:Nat) (au:P.underlying t=some (.slice e)) (hi:P.info? e=some i) (aW:i.zero=some z)
  (aS:i.size=n) (aG:i.bytes=bytes) (aX:z.cells.size=n) (aj:0<n)
  {α:Type} {R:qJ α} (aE:wC R) (aR: ∀w cs y,R w cs y-> ∀u∈cs,u.oneCell'=true)
  (v:Value) (L:List α) (U:a.eval s=v) (aq:qV n R (λ_=>False) w base e v L)
  (ax:Value) (M:List α) (av:a.eval x=ax) (aM:SlP n R Y ax M) (ao:qa Y w) (aV: ∀b,v.ownBlock=some b->Y.heap.size<=b)
  (ba:1<=bytes) (aH:(L.length+M.length)* bytes<=140737488355328) (aF:base<=w.heap.size)
  (h: ∀v' w',qV n R (λ_=>False) w' base e v' (L++M)->w.grownBy w' v.ownBlock->(v'.ownBlock=v.ownBlock∨v'.ownBlock=some w.heap.size)->wpList P ops Q rest (a.put o.dst v') w'):wpList P ops Q (o::rest) a w:=Ψ9
end
end Go.Proofs.YtlmllmonabafjaaGreatDoor
