/- Contracts of the functions that the law reaches, and plain laws; no conditions but those written at each. -/
import Derived.Test.YtdgippmmaponfaaGreatMg16
namespace Go.Proofs.YtdgippmmaponfaaGreat
open Go.Value renaming bool->μ,slice->δ,pointer->π,agg->θ
open Go.IntKind renaming i64->ι,u8->υ,u16->φ,u32->ω,i32->χ,u64->ψ
open _root_.Go.Proofs.Tryz
set_option linter.unusedSimpArgs false
set_option maxHeartbeats 8000000
set_option linter.unusedVariables false
open Go.RowKit
set_option maxRecDepth 100000
theorem LL (w:World):(zeroValue 34).run prog w= .ok (δ none 0 0) w:=by kernel_rfl
theorem IU (w:World) (A i c:Nat) (v:Value) (d:w.cell? ⟨A,i,none⟩=some v) (G:w.frozen? ⟨A,i,none⟩=false):
  (Builtin.clear_ #[33] 0 #[δ (some ⟨A,i,none⟩) 1 c]).run prog w= .ok (.tuple #[]) (w.setCell ⟨A,i,none⟩ (δ none 0 0)):=by
 have H:=LL w;unfold Builtin.clear_;simp[run_underlying underlying33,H,Value.cells,Builtin.zeroCells,storeCells,Addr.add,d,G,go_sem]
theorem VP: ∀(css:List (List Value)) (i:Nat) (z:Value),(∀c∈css,c.length=1)->css.flatten.set i z=(css.set i [z]).flatten
 | [],i,z,_=>by simp
 | c::css,0,z,h=>by
  obtain⟨x,rfl⟩:=List.length_eq_one_iff.1 (h c η);simp
 | c::css,i+1,z,h=>by
  obtain⟨x,rfl⟩:=List.length_eq_one_iff.1 (h c η);simp[VP css i z (λc d=>h c (by simp[d]))]
section
variable {w:World} {R A room first:Nat} {q:List (List Value)} {ci co cd cg:Int} {css:List (List Value)}
abbrev zR:=qN 1 188 34
theorem qN.cellY (h:zR w R A room first q ci co cd cg css) {i:Nat} (hi:i<room): ∃v,css.getD i []=[v]/\w.cell? ⟨A,i,none⟩=some v:=by
 have G:i<css.length:=by rw[h.len];exact hi
 have d:css.getD i []=css[i]:=by simp[G]
 obtain⟨v,H⟩:=List.length_eq_one_iff.1 (h.cl css[i] (List.getElem_mem G));refine⟨v,by rw[d];exact H, ?_⟩;have:=h.range hi 0 v (by rw[d,H];rfl)
 simpa using this
theorem qN.setY (h:zR w R A room first q ci co cd cg css) (i:Nat) (z:Value):(w.setCell ⟨A,i,none⟩ z).heap[A]? =some (.cells (css.set i [z]).flatten.toArray 34 (0,0)):=by
 refine qB (qp h.row i z) ?_;rw[<-VP css i z h.cl];simp
theorem Ng (h:zR w R A room first q ci co cd cg css):
  Calls prog 44 #[γ R] w λe w'=>e= .returned (ι q.length)/\w'=w:=by
 have d:w.cell? ⟨R,2,none⟩=some (ι q.length):=qb h.ring 2 rfl;clear h
 go_enter func44,ntmps44
 go_wp2;go_ret;exact⟨rfl,rfl⟩
theorem He (h:zR w R A room first q ci co cd cg css):
  Calls prog 125 #[γ R] w λe w'=>e= .returned (μ (decide (q.length=room)))/\ ∃k,w'=w.drewN k:=by
 have H:w.cell? ⟨R,0,none⟩=some (δ (some ⟨A,0,none⟩) room room):=qb h.ring 0 rfl;have I:w.cell? ⟨R,2,none⟩=some (ι q.length):=qb h.ring 2 rfl;have G:((q.length:Int)==(room:Int))=decide (q.length=room):=by by_cases e:q.length=room<;>simp[e];omega
 clear h
 go_enter func125,ntmps125
 go_wp2;refine wp_region_quiet_lit ξ ξ ?_
 repeat (go_big_quiet_step (fail))
 refine wpQuiet_nil ?_;intro _ d;obtain⟨nq,rfl⟩:=d;go_wp2;go_ret;exact⟨rfl,nq,rfl⟩
theorem BJ (m:Int) (d:m<1∨8<m) (w:World):
  Calls prog 35 #[ι m] w λe w'=>e= .returned (.tuple #[π none,ι 1])/\qa w w':=by
 go_enter func35,ntmps35
 go_wp2
 all_goals (refine bodyPost_ret (v:= .tuple #[π none,ι 1]) (by simp[results,results35,go_sem]) rfl ?_;exact⟨rfl,ρ⟩)
theorem mkY (n:Nat) (M:1<=n) (N:n<=8) (w:World):
  (Instr.makeSlice 33 (ι (n:Int)) (ι (n:Int))).run prog w= .ok (δ (some ⟨w.heap.size,0,none⟩) n n) (w.alloc (.cells (List.replicate n [δ none 0 0]).flatten.toArray 34)):=by
 obtain⟨J,hi,G,H,I⟩:=info_parts (P:=prog) (e:=34) (z:= δ none 0 0) (size:=1) (bytes:=24) ξ;have d:=run_make (P:=prog) w 33 34 J (δ none 0 0) underlying33 hi G .i64 .i64 n n τ τ (by rw[I];omega) τ;rw[d];simp only[Int.toNat_natCast,H];rw[Yq _ 1 n rfl ζ];rfl
theorem ZK (m:Int) (n:Nat) (I:m=n) (d:1<=n) (G:n<=8) (w:World):
  Calls prog 35 #[ι m] w λe w'=>e= .returned (.tuple #[γ (w.heap.size+1),ι 0])/\zR w' (w.heap.size+1) w.heap.size n 0 [] 0 0 0 0 (List.replicate n [δ none 0 0])/\qa w w':=by
 subst I;have J:1<=(n:Int):=by omega
 go_enter func35,ntmps35
 have M:=mkY n d G;go_wp2;refine bodyPost_ret (v:= .tuple #[γ (w.heap.size+1),ι 0]) (by simp[results,results35,go_sem]) rfl ?_;refine⟨rfl, ?_,ρ⟩;exact⟨qC η,qs (qB (qj _ _) (by have:(List.replicate n [δ none 0 0]).flatten=List.replicate n (δ none 0 0):=η;rw[this];simp)) _,τ,η,λc H=>by rw[List.eq_of_mem_replicate H];exact⟨rfl,by simp[Value.oneCell']⟩,⟨d,G⟩,τ,η,λi hi=>by simp at hi⟩
theorem DI (w:World) (R A room first:Nat) (ac:Option Addr) (ae ad:Nat) (T:List (List Value)) (Y aa O U:Int) (css:List (List Value)) (h:zR w R A room first ([δ ac ae ad]::T) Y aa O U css):
  Calls prog 126 #[γ R] w λe w'=>e= .returned (δ ac ae ad)/\zR w' R A room ((first+1)%room) T Y aa O U (css.set first [δ none 0 0])/\qg (RgB R A) w w':=by
 have d:=κ h;have au:w.cell? ⟨R,0,none⟩=some (δ (some ⟨A,0,none⟩) room room):=qb h.ring 0 rfl;have av:w.cell? ⟨R,1,none⟩=some (ι first):=qb h.ring 1 rfl;obtain⟨v,J,a0⟩:=h.cellY h.fst;rw[h.head] at J;injection J with J
 subst J;have an:=h.fst;have ao:(first:Int)<(room:Int):=by omega
 have ap:0<=(first:Int):=by omega
 have aq:=h.pos.1;have ar:=h.pos.2;have I:R<w.heap.size:=qn h.ring;have H:=h.ne;clear h
 go_enter func126,ntmps126
 go_wp2;refine wp_region_quiet_lit ξ ξ ?_
 repeat (go_big_quiet_step (fail))
 refine wpQuiet_nil ?_;intro _ aj;obtain⟨nq,rfl⟩:=aj
 go_wp2_with fail
 have M: ∀x:qz (λb=>b=A) w,x.w'.cell? ⟨R,0,none⟩=some (δ (some ⟨A,0,none⟩) room room):=λx=>x.cell I H (qb d.o.ring 0 rfl)
 have N: ∀x:qz (λb=>b=A) w,x.w'.cell? ⟨R,1,none⟩=some (ι first):=λx=>x.cell I H (qb d.o.ring 1 rfl)
 refine QN (λb=>b=A) w 15 15 [14] ?_
 refine QqX ?_
 refine jR rfl rfl ?_;intro K G;have ai:=IU (w.drewN (nq+1)) A first (room-first) _ a0 (qd d.o.row first)
 unfold jn;go_simp;refine⟨qi σ,G _ _ ?_⟩;clear G K ai M N;refine qA ?_
 go_wp2_with fail
 have M: ∀x:qz (λb=>b=A) w,x.w'.cell? ⟨R,0,none⟩=some (δ (some ⟨A,0,none⟩) room room):=λx=>x.cell I H (qb d.o.ring 0 rfl)
 have N: ∀x:qz (λb=>b=A) w,x.w'.cell? ⟨R,1,none⟩=some (ι first):=λx=>x.cell I H (qb d.o.ring 1 rfl)
 refine QN (λb=>b=A) w 14 15 [12,14] ?_
 refine Nz ?_
 (refine Ql ?_;intro K G)
 refine⟨qi σ,G _ _ ?_⟩;clear G K
 refine Qs1 ?_
 have ab: ¬A=R:=λe=>H e.symm
 have ak:w.frozen? ⟨R,1,none⟩=false:=qd d.o.ring 1;have al:w.frozen? ⟨R,2,none⟩=false:=qd d.o.ring 2;have aw:w.cell? ⟨R,2,none⟩=some (ι (T.length+1)):=qb d.o.ring 2 (by simp[jV])
 (refine Qe ?_;intro K G)
 refine G _ _ ?_;clear G K;refine qA ?_;have am:(T.length:Int)<=8:=by have:=d.o.fits;simp at this;omega
 go_wp2;go_ret;refine⟨rfl, ?_,σ⟩;have af:((first:Int)+1)%(room:Int)=(((first+1)%room:Nat):Int):=by rw[Int.natCast_emod];rfl
 rw[af];have ag:=qo (qr d.o.ring (nq+1)) ⟨A,first,none⟩ (δ none 0 0) H;have ah:=(d.o.more (qa.drewN w (nq+1))).setY first (δ none 0 0)
 refine d.o.took ⟨rfl,by simp[Value.oneCell']⟩ (qB (qp (qp (qr ag 1) 1 _) 2 _) ?_) (qo (qo (qr ah 1) _ _ ab) _ _ ab);simp[jV]
theorem MY (w:World) (R A room first:Nat) (d:Option Addr) (H G:Nat) (T:List (List Value)) (M N I J:Int) (css:List (List Value)) (h:zR w R A room first ([δ d H G]::T) M N I J css):
  Calls prog 134 #[γ R] w λe w'=>e= .returned (.tuple #[δ d H G,true])/\(∃co',zR w' R A room ((first+1)%room) T M co' I J (css.set first [δ none 0 0]))/\qg (RgB R A) w w':=by
 have Y:=κ h;have ac:((([δ d H G]::T).length:Int)==0)=false:=by simp;omega
 have ad:w.cell? ⟨R,2,none⟩=some (ι ([δ d H G]::T).length):=qb h.ring 2 rfl;have ae:w.cell? ⟨R,5,none⟩=some (ι N):=qb h.ring 5 rfl;have ab:w.frozen? ⟨R,5,none⟩=false:=qd h.ring 5;clear h
 go_enter func134,ntmps134
 go_wp2_with (go_at_call 126;(go_call DI _ R A room first d H G T M _ I J css (Y.o.popped _) as e w5 ⟨rfl,O,a5⟩;have aa:=κ O;have U:Hid (qg (RgB R A) w w5):=κ (((qg.refl _ _).set (Or.inl rfl) _).trans a5);clear O a5))
 refine bodyPost_ret (v:= .tuple #[δ d H G,true]) (by simp[results,results134,go_sem]) rfl ?_;exact⟨rfl,⟨_,aa.o⟩,U.o⟩
end
theorem IL (w:World) (R A room first:Nat) (q:List (List Value)) (M N I J:Int) (css:List (List Value)) (h:zR w R A room first q M N I J css) (an: ∀c∈q,∃G n cp,c=[δ G n cp]):
  Calls prog 130 #[γ R] w λe w'=> ∃v,e= .returned v/\w'.ownsRow w.heap.size 34 1 v q.length q.flatten/\(∃first' cg' css',zR w' R A room first' [] M N I cg' css')/\qg (RgB R A) w w':=by
 obtain⟨aI,aJ,aK,aL,aM⟩:=info_parts (P:=prog) (e:=34) (z:= δ none 0 0) (size:=1) (bytes:=24) ξ;have av:=κ h;have aQ:R<w.heap.size:=qn h.ring;have aP:A<w.heap.size:=qn h.row;have aV:w.cell? ⟨R,2,none⟩=some (ι q.length):=qb h.ring 2 rfl;have aT:(q.length:Int)<=8:=by have:=h.fits;have:=h.pos.2;omega
 have aB:=κ an;clear h an
 go_enter func130,ntmps130
 go_wp2
 go_loopw [3,8] (λu af wr=> ∃(j f:Nat) (cs:List (List Value)),j<=q.length/\af= ι j/\(∃aq ap aj,u= δ aq ap aj)/\wr.ownsRow w.heap.size 34 1 u j (q.take j).flatten/\zR wr R A room f (q.drop j) M N I J cs/\qg (RgB R A) w wr) (λ_ af _=>q.length-(intOf af).toNat)
 case atStart=>exact⟨0,first,css,τ,rfl,⟨_,_,_,rfl⟩,World.ownsRow_nil w _ _ _,av.o,qg.refl _ _⟩
 case round=>
  obtain⟨j,f,cs,aR,rfl,⟨aq,ap,aj,rfl⟩,d,ao,al⟩:=hrel;have ag:=κ d;have H:=κ ao;have aa:=κ al;clear d ao al;by_cases hlt:j<q.length
  ·have ac:q.drop j=q[j]::q.drop (j+1):=List.drop_eq_getElem_cons hlt;have ae:q.take (j+1)=q.take j++[q[j]]:=by rw[List.take_add_one,List.getElem?_eq_getElem hlt];rfl
   obtain⟨G,Y,U,am⟩:=aB.o q[j] (List.getElem_mem hlt);have aS:(j:Int)<(q.length:Int):=by omega
   rw[am] at ac ae;have ay:=κ (ac▸H.o);have az:=κ ae;clear ac ae H am
   go_wp2_with (first | (go_at_call 126;(go_call DI wr R A room f G Y U (q.drop (j+1)) M N I J cs ay.o as e w5 ⟨rfl,ak,a5⟩;have aw:=κ ak;have ar:=κ a5;have O:=κ (zI ag.o a5 (λb ab e=>by rcases e with e | e<;>omega));have aC:Hid (w.heap.size<=w5.heap.size):=κ (Nat.le_trans aa.o.size a5.size);clear ak a5)) | (at_builtin;(refine wpList_append_own_at _ rfl (.tmp 10) (.tmp 13) 33 rfl w.heap.size 34 aI (δ none 0 0) 1 24 underlying33 aJ aK aL aM rfl ζ _ j (q.take j).flatten rfl (zI O.o (qg.of_more (qa.alloc _ _)) (λb _ e=>e)) ⟨w5.heap.size,0,none⟩ 1 1 [δ G Y U] rfl rfl (λi u aF=>by have:=xy (cs:=[δ G Y U]) (t:=34) (qj w5 (.cells #[δ G Y U] 34)) i u aF;rw[Addr.add_mid];exact this) (by simp[Value.oneCell']) (by unfold maxLen;omega) τ (by have:=aC.o;simp;omega) ?_;intro v6 w6 d ad aD aG;have aA:=κ d;have au:Hid (qg (RgB R A) w w6):=κ (((aa.o.trans ar.o).alc _).grown ad (λb ab=>vV O.o ab));have ax:Hid (zR w6 R A room ((f+1)%room) (q.drop (j+1)) M N I J (cs.set f [δ none 0 0])):=κ ((aw.o.more (qa.alloc _ _)).away (qg.of_grown ad) (λe=>by have:=vV O.o e;omega) (λe=>by have:=vV O.o e;omega));obtain⟨aU,aN,rfl⟩:=zA d;clear d ad aD aG)))
   go_roundw
   case rel=>exact⟨j+1,(f+1)%room,_,τ,by go_num,⟨_,_,_,rfl⟩,by rw[az.o,List.flatten_append];simpa using aA.o,ax.o,au.o⟩
   case measure=>simp[intOf];omega
  ·obtain rfl:j=q.length:=by omega
   have aW:wr.cell? ⟨R,7,none⟩=some (ι J):=qb H.o.ring 7 rfl;have aO:wr.frozen? ⟨R,7,none⟩=false:=qd H.o.ring 7;go_wp2;go_ret;have aH:q.drop q.length=[]:=by simp
   have aE:q.take q.length=q:=by simp
   have ai:=H.o;have ah:=ag.o;rw[aH] at ai;rw[aE] at ah;exact⟨_,rfl,zI ah ((qg.refl (λb=>b=R) _).set rfl _) (λb ab e=>by omega),⟨_,_,_,ai.drained _⟩,aa.o.set (Or.inl rfl) _⟩
theorem UB (w:World) (R A room first:Nat) (q:List (List Value)) (J ab Y aa:Int) (css:List (List Value)) (h:zR w R A room first q J ab Y aa css) (ay:q.length<room) (N:Option Addr) (U O:Nat):
  Calls prog 82 #[γ R,δ N U O] w λe w'=>e= .returned (.tuple #[δ none 0 0,false,ι 0])/\(∃ci' cd',zR w' R A room first (q++[[δ N U O]]) ci' ab cd' aa (css.set ((first+q.length)%room) [δ N U O]))/\qg (RgB R A) w w':=by
 have af:=κ h;have aA:w.cell? ⟨R,3,none⟩=some (μ false):=qb h.ring 3 rfl;have ax:decide (q.length=room)=false:=by simp;omega
 clear h
 go_enter func82,ntmps82
 go_wp2_with (go_at_call 125;(go_call He af.o as e al ⟨rfl,aI,ai⟩;rw[ax];have ad:Hid (qa w al):=κ (by rw[ai];exact qa.drewN _ _);clear ai))
 obtain⟨G,ac⟩: ∃G,G=al:=⟨_,rfl⟩;have d:Hid (zR G R A room first q J ab Y aa css):=κ (by rw[ac];exact af.o.more ad.o);have ae:Hid (qg (RgB R A) w G):=κ (by rw[ac];exact qg.of_more ad.o);have az:q.length<room:=ay;rw[<-ac];clear ac ad aA;obtain⟨f,ah⟩: ∃f,Hid (f=first):=⟨_,κ rfl⟩;obtain⟨cs,ag⟩: ∃cs,Hid (cs=css):=⟨_,κ rfl⟩;rw[<-ah.o,<-ag.o] at d;have an: ∀x:qt G,x.w'.cell? ⟨R,0,none⟩=some (δ (some ⟨A,0,none⟩) room room):=λx=>x.cell (qn d.o.ring) (qb d.o.ring 0 rfl)
 have ao: ∀x:qt G,x.w'.cell? ⟨R,1,none⟩=some (ι f):=λx=>x.cell (qn d.o.ring) (qb d.o.ring 1 rfl)
 have ap: ∀x:qt G,x.w'.cell? ⟨R,2,none⟩=some (ι q.length):=λx=>x.cell (qn d.o.ring) (qb d.o.ring 2 rfl)
 have aF:((f:Int)+(q.length:Int))%(room:Int)=(((f+q.length)%room:Nat):Int):=by rw[Int.natCast_emod];rfl
 have aw:(f+q.length)%room<room:=Nat.mod_lt _ τ;have hi:(((f+q.length)%room:Nat):Int)<(room:Int):=by omega
 have aG:=d.o.pos;have aD:=d.o.fst;have aE:(f:Int)<=8:=by omega
 have aH:(q.length:Int)<=8:=by omega
 obtain⟨v0,_,ar⟩:=d.o.cellY aw;have au:G.frozen? ⟨A,(f+q.length)%room,none⟩=false:=qd d.o.row _;generalize av:(f+q.length)%room=I at *;refine Qn G 21 22 [21] ?_
 refine NA ?_
 (refine Qe ?_;intro K aj)
 refine aj _ _ ?_;clear aj K an ao ap;refine qA ?_;obtain⟨W6,M⟩:=ν ((G.drewN 1).setCell ⟨A,I,none⟩ (δ N U O));have am:Hid (qg (RgB R A) w W6):=κ (by rw[<-M];exact(ae.o.drewN 1).set (Or.inr rfl) _);have H:Hid (W6.heap[R]? =some (.cells (jV A room f q.length J ab Y aa) 188 (0,0))):=κ (by rw[<-M];exact qo (qr d.o.ring 1) _ _ d.o.ne);have aq:Hid (W6.heap[A]? =some (.cells (cs.set I [δ N U O]).flatten.toArray 34 (0,0))):=κ (by rw[<-M];exact(d.o.more (qa.drewN G 1)).setY I _)
 (try rw[M])
 clear M ae ar au;have aJ:W6.cell? ⟨R,2,none⟩=some (ι q.length):=qb H.o 2 rfl;have aB:W6.frozen? ⟨R,2,none⟩=false:=qd H.o 2;have aK:W6.cell? ⟨R,4,none⟩=some (ι J):=qb H.o 4 rfl;have aC:W6.frozen? ⟨R,4,none⟩=false:=qd H.o 4;go_wp2;refine bodyPost_ret (v:= .tuple #[δ none 0 0,false,ι 0]) (by simp[results,results82,go_sem]) rfl ?_;have ak:R≠A:=d.o.ne;subst av;obtain rfl:=ah.o;obtain rfl:=ag.o;refine⟨rfl,⟨wrap64 (J+1),Y,d.o.put az ⟨rfl,by simp[Value.oneCell']⟩ ?_ ?_⟩,(am.o.set (Or.inl rfl) _).set (Or.inl rfl) _⟩
 ·exact qB (qp (qp H.o 2 _) 4 _) rfl
 ·exact qo (qo aq.o _ _ (Ne.symm ak)) _ _ (Ne.symm ak)
theorem UC (w:World) (R A room first:Nat) (pa:Option Addr) (N M:Nat) (T:List (List Value)) (J Y H U:Int) (css:List (List Value)) (h:zR w R A room first ([δ pa N M]::T) J Y H U css) (ag:([δ pa N M]::T).length=room) (ab:Option Addr) (ad ac:Nat):
  Calls prog 82 #[γ R,δ ab ad ac] w λe w'=>e= .returned (.tuple #[δ pa N M,true,ι 0])/\(∃ci' cd',zR w' R A room ((first+1)%room) (T++[[δ ab ad ac]]) ci' Y cd' U ((css.set first [δ none 0 0]).set ((((first+1)%room)+T.length)%room) [δ ab ad ac]))/\qg (RgB R A) w w':=by
 have ak:=κ h;have aG:w.cell? ⟨R,3,none⟩=some (μ false):=qb h.ring 3 rfl;have aE:decide (([δ pa N M]::T).length=room)=true:=by simp at ag ⊢;exact ag
 clear h
 go_enter func82,ntmps82
 go_wp2_with (first | (go_at_call 125;(go_call He ak.o as e ar ⟨rfl,aQ,ao⟩;rw[aE];have ah:Hid (qa w ar):=κ (by rw[ao];exact qa.drewN _ _);clear ao)) | (go_at_call 126;(go_call DI ar R A room first pa N M T J Y H U css (ak.o.more ah.o) as e w5 ⟨rfl,ae,a5⟩;have al:=κ ae;have ai:Hid (qg (RgB R A) w w5):=κ ((qg.of_more ah.o).trans a5);have aH:w5.cell? ⟨R,6,none⟩=some (ι H):=qb ae.ring 6 rfl;have aB:w5.frozen? ⟨R,6,none⟩=false:=qd ae.ring 6;clear ae a5)))
 obtain⟨G,af⟩:=ν (w5.setCell ⟨R,6,none⟩ (ι (wrap64 (H+1))));have d:Hid (zR G R A room ((first+1)%room) T J Y (wrap64 (H+1)) U (css.set first [δ none 0 0])):=κ (by rw[<-af];exact al.o.dropped _);have aj:Hid (qg (RgB R A) w G):=κ (by rw[<-af];exact ai.o.set (Or.inl rfl) _);have aF:T.length<room:=by simp at ag;omega
 (try rw[af])
 clear af ah al ai aH aB aG ag;obtain⟨f,an⟩: ∃f,Hid (f=((first+1)%room)):=⟨_,κ rfl⟩;obtain⟨cs,am⟩: ∃cs,Hid (cs=(css.set first [δ none 0 0])):=⟨_,κ rfl⟩;rw[<-an.o,<-am.o] at d;have av: ∀x:qt G,x.w'.cell? ⟨R,0,none⟩=some (δ (some ⟨A,0,none⟩) room room):=λx=>x.cell (qn d.o.ring) (qb d.o.ring 0 rfl)
 have aw: ∀x:qt G,x.w'.cell? ⟨R,1,none⟩=some (ι f):=λx=>x.cell (qn d.o.ring) (qb d.o.ring 1 rfl)
 have ax: ∀x:qt G,x.w'.cell? ⟨R,2,none⟩=some (ι T.length):=λx=>x.cell (qn d.o.ring) (qb d.o.ring 2 rfl)
 have aN:((f:Int)+(T.length:Int))%(room:Int)=(((f+T.length)%room:Nat):Int):=by rw[Int.natCast_emod];rfl
 have aD:(f+T.length)%room<room:=Nat.mod_lt _ τ;have hi:(((f+T.length)%room:Nat):Int)<(room:Int):=by omega
 have aO:=d.o.pos;have aK:=d.o.fst;have aL:(f:Int)<=8:=by omega
 have aM:0<=(f:Int):=by omega
 have aP:(T.length:Int)<=8:=by omega
 obtain⟨v0,_,az⟩:=d.o.cellY aD;have aA:G.frozen? ⟨A,(f+T.length)%room,none⟩=false:=qd d.o.row _;generalize aC:(f+T.length)%room=I at *;refine Qn G 21 22 [21] ?_
 refine NA ?_
 (refine Qe ?_;intro K ap)
 refine ap _ _ ?_;clear ap K av aw ax;refine qA ?_;obtain⟨W6,aa⟩:=ν ((G.drewN 1).setCell ⟨A,I,none⟩ (δ ab ad ac));have au:Hid (qg (RgB R A) w W6):=κ (by rw[<-aa];exact(aj.o.drewN 1).set (Or.inr rfl) _);have O:Hid (W6.heap[R]? =some (.cells (jV A room f T.length J Y (wrap64 (H+1)) U) 188 (0,0))):=κ (by rw[<-aa];exact qo (qr d.o.ring 1) _ _ d.o.ne);have ay:Hid (W6.heap[A]? =some (.cells (cs.set I [δ ab ad ac]).flatten.toArray 34 (0,0))):=κ (by rw[<-aa];exact(d.o.more (qa.drewN G 1)).setY I _)
 (try rw[aa])
 clear aa aj az aA;have aR:W6.cell? ⟨R,2,none⟩=some (ι T.length):=qb O.o 2 rfl;have aI:W6.frozen? ⟨R,2,none⟩=false:=qd O.o 2;have aS:W6.cell? ⟨R,4,none⟩=some (ι J):=qb O.o 4 rfl;have aJ:W6.frozen? ⟨R,4,none⟩=false:=qd O.o 4;go_wp2;refine bodyPost_ret (v:= .tuple #[δ pa N M,true,ι 0]) (by simp[results,results82,go_sem]) rfl ?_;have aq:R≠A:=d.o.ne;subst aC;obtain rfl:=an.o;obtain rfl:=am.o;refine⟨rfl,⟨wrap64 (J+1),wrap64 (H+1),d.o.put aF ⟨rfl,by simp[Value.oneCell']⟩ ?_ ?_⟩,(au.o.set (Or.inl rfl) _).set (Or.inl rfl) _⟩
 ·exact qB (qp (qp O.o 2 _) 4 _) rfl
 ·exact qo (qo ay.o _ _ (Ne.symm aq)) _ _ (Ne.symm aq)
theorem Z4 (n sub:Int) (w:World):Calls prog 65 #[θ #[ι n,ι sub]] w λe w'=>e= .returned (ι (xB n))/\qa w w':=by
 by_cases h2:n=2
 ·subst h2
  go_enter func65,ntmps65
  go_wp2;go_ret;exact⟨rfl,qa.alloc _ _⟩
 ·by_cases h3:n=3
  ·subst h3
   go_enter func65,ntmps65
   go_wp2;go_ret;exact⟨rfl,qa.alloc _ _⟩
  ·have e:xB n=3:=by unfold xB;rw[if_neg h2,if_neg h3]
   have d:(n==2)=false:=by simp[h2]
   have G:(n==3)=false:=by simp[h3]
   rw[e];clear h2 h3 e
   go_enter func65,ntmps65
   go_wp2;go_ret;exact⟨rfl,qa.alloc _ _⟩
theorem CM (n sub:Int) (J:0<=n/\n<=4) (w:World):Calls prog 133 #[θ #[ι n,ι sub]] w λe w'=>e= .returned (.tuple #[θ #[ι (vi (n,sub)).1.1,ι (vi (n,sub)).1.2],μ (vi (n,sub)).2])/\qa w w':=by
 have d:=qj (w.alloc (.cells #[ι n,ι sub] 36)) (.cells #[ι 0,ι 0] 36);by_cases h0:n=0
 ·subst h0
  go_enter func133,ntmps133
  go_wp2
  (refine bodyPost_ret (v:= .tuple #[θ #[ι 0,ι 0],false]) ?rr1 rfl ?_;(case rr1=>(simp[results,results133,go_sem])))
  exact⟨rfl,ρ⟩
 ·by_cases h1:n=1
  ·subst h1
   go_enter func133,ntmps133
   go_wp2
   (refine bodyPost_ret (v:= .tuple #[θ #[ι 0,ι 0],true]) ?rr2 rfl ?_;(case rr2=>(simp[results,results133,go_sem])))
   exact⟨rfl,ρ⟩
  ·by_cases h2:n=2
   ·subst h2
    go_enter func133,ntmps133
    go_wp2
    (refine bodyPost_ret (v:= .tuple #[θ #[ι 1,ι 0],true]) ?rr3 rfl ?_;(case rr3=>(simp[results,results133,go_sem])))
    exact⟨rfl,ρ⟩
   ·have e:vi (n,sub)=((n-1,sub),true):=by unfold vi;rw[if_neg h0,if_neg h1,if_neg h2]
    have G:(n==0)=false:=by simp[h0]
    have H:(n==1)=false:=by simp[h1]
    have I:(n==2)=false:=by simp[h2]
    rw[e];clear e
    go_enter func133,ntmps133
    go_wp2
    (refine bodyPost_ret (v:= .tuple #[θ #[ι (n-1),ι sub],true]) ?rr4 rfl ?_;(case rr4=>(simp[results,results133,go_sem])))
    exact⟨rfl,ρ⟩
theorem PZ {J:Nat->Prop} {w:World} {p:Nat} {l:LnS} (h:zw J w p l) (n:Int) (M:n=1∨n=2∨n=3):
  Calls prog 132 #[γ p,ι n] w λe w'=>(∃v,e= .returned v/\w'.ownsRow w.heap.size 3 1 v (KG l n).length ((KG l n).map (Value.int .i64)))/\zw (xf J w w') w' p (vh l n)/\qg J w w':=by
 obtain⟨k,vo,rfl,x⟩:=h;rcases M with rfl | rfl | rfl
 ·refine(Z1 x).mono ?_;rintro e w' ⟨d,G,H⟩;exact⟨d,⟨k,vo,rfl,G⟩,H.mono λb I=>x.muts b I⟩
 ·refine(ZZ x).mono ?_;rintro e w' ⟨d,G,H⟩;exact⟨d,⟨k,vo,rfl,G⟩,H.mono λb I=>x.muts b I⟩
 ·refine(ZY x).mono ?_;rintro e w' ⟨d,G,H⟩;exact⟨d,⟨k,vo,rfl,G⟩,H.mono λb I=>x.muts b I⟩
theorem Kb (n:Int):xB n=1∨xB n=2∨xB n=3:=by
 unfold xB;split
 ·exact Or.inl rfl
 ·split
  ·exact Or.inr (Or.inl rfl)
  ·exact Or.inr (Or.inr rfl)
section
variable {T:Nat->Tg} {w0 w w':World} {k:RmK} {vp vr:Value} {s:RmS} {F:List Nat}
theorem DrJ.step' {w w':World} {R:Nat} {v v' G:Value} {b:Jb} {A:List Int} (d:DrJ w w' R v v' b G A):kc w w' R v v' b:=⟨d.buf,d.away,d.own⟩
theorem FD (h:RmX T w0 w k vp vr s F):
  Calls prog 130 #[γ k.RQ] w λe w'=>(∃d cap,e= .returned (δ d s.queue.length cap))/\qI w0 w' k {s with queue:=[]} F/\qw F w w'/\qg (RgB k.RQ k.AQ) w w':=by
 obtain⟨f,q,I,J,H,M,css,g,a⟩:=h.que;have ad: ∀c∈q,∃d n cp,c=[δ d n cp]:=λc ab=>by
  obtain⟨b,_,ae⟩:=a.mem c ab;obtain⟨v,rfl,⟨d,cap,rfl,_⟩,_⟩:=ae.read;exact⟨d,_,cap,rfl⟩
 refine(IL w _ _ _ _ q I J H M css g ad).mono ?_;rintro e w' ⟨v,rfl,ac,⟨U,N,O,g'⟩,G⟩;obtain⟨d,cap,rfl⟩:=zA ac;obtain⟨Y,aa⟩:=h.ring (q:=[]) G (λD _=>⟨U,[],I,J,H,N,O,g',trivial⟩);rw[a.len];exact⟨⟨d,cap,rfl⟩,Y,aa,G⟩
end
theorem ZH {w:World} {base e:Nat} {v:Value} {L:List Int} (h:w.ownsRow base e 1 v L.length (L.map (Value.int .i64))):
  ∃oa cap,v= δ oa L.length cap/\L.length<=maxLen/\ ∀w':World,(∀g,base<=g->g<w.heap.size->w'.heap[g]? =w.heap[g]?)-> ∀i (hi:i<L.length),∃g,oa=some ⟨g,0,none⟩/\w'.cell? ⟨g,i,none⟩=some (ι L[i]):=by
 rcases id h.2 with ⟨rfl,d⟩ | ⟨g,cap,cur,rfl,G,H,J,M,_⟩
 ·exact⟨none,0,by rw[d],τ,λw' _ i hi=>by omega⟩
 ·refine⟨_,cap,rfl,τ,λw' e i hi=>⟨g,rfl, ?_⟩⟩;have I:=h.cellAt i τ;rw[World.cell?_of_block (e g G (lt_of_block H)),I,List.getElem?_map,List.getElem?_eq_getElem hi];rfl
section
variable {w0 w w':World} {k:RmK} {s:RmS} {F:List Nat}
theorem RmX.orgsF {T:Nat->Tg} {vp J:Value} (h:RmX T w0 w k vp J s F):
  Calls prog 42 #[γ k.R] w λe w'=> ∃G cap Fn,e= .returned (δ G s.origins.length cap)/\s.origins.length<=9/\RmX T w0 w' k vp J s (Fn++F)/\qa w w'/\
   ∀w'':World,(∀b∈Fn,w''.heap[b]? =w'.heap[b]?)-> ∀i (hi:i<s.origins.length),∃b,G=some ⟨b,0,none⟩/\w''.cell? ⟨b,i* 2,none⟩=some (ι s.origins[i].1)/\w''.cell? ⟨b,i* 2+1,none⟩=some (ι s.origins[i].2):=by
 refine h.orgsRow.mono ?_;rintro e w' ⟨v,rfl,r,m⟩;have O:s.origins.length<=9:=by
  unfold RmS.origins;exact Nat.le_trans (List.length_filter_le _ _) ζ
 obtain⟨G,cap,rfl,_,U⟩:=KT r;refine⟨G,cap,match G with | some a=>if w.heap.size<=a.block/\a.block<w'.heap.size then [a.block] else [] | none=>[],rfl,O,h.adds m (λb d=> ?_),m,λw'' I i hi=> ?_⟩
 ·cases G with
  | none=>simp at d
  | some a=>
   simp only at d;split at d
   ·rename_i H;simp at d;subst d;exact H
   ·simp at d
 ·obtain⟨b,rfl,N,H,M,c1⟩:=U i hi;simp only[N,H,and_self,if_true] at I;have e:=I b η;exact⟨b,rfl,by rw[World.cell?_of_block e];exact M,by rw[World.cell?_of_block e];exact c1⟩
theorem Kq (L:List Int): ∀s:RmS,(L.foldl RmS.drain1 s).strs=s.strs:=by
 induction L with
 | nil=>intro s;rfl
 | cons x L ih=>intro s;rw[List.foldl_cons,ih];rfl
theorem Kp (s:RmS) (o x:Og):(qh (s.drainO o).strs x).isSome=(qh s.strs x).isSome:=by
 unfold RmS.drainO;cases ho:qh s.strs o with
 | none=>rfl
 | some t=>
  simp only[Kq,qF];by_cases e:x=o
  ·rw[if_pos e,e,ho];rfl
  ·rw[if_neg e]
theorem Y1 (L:List Og) (x:Og): ∀s:RmS,(qh (L.foldl RmS.drainO s).strs x).isSome=(qh s.strs x).isSome:=by
 induction L with
 | nil=>intro s;rfl
 | cons o L ih=>intro s;rw[List.foldl_cons,ih,Kp]
theorem QW {j:Nat} (h:j<6):subIds.take (j+1)=subIds.take j++[(j:Int)]:=by
 have:j=0∨j=1∨j=2∨j=3∨j=4∨j=5:=by omega
 rcases this with rfl | rfl | rfl | rfl | rfl | rfl<;>rfl
theorem UX (L:List Int): ∀s:RmS,(L.foldl RmS.drain1 s).ret=s.ret:=by
 induction L with
 | nil=>intro s;rfl
 | cons x L ih=>intro s;rw[List.foldl_cons,ih];rfl
theorem UW (s:RmS) (o:Og):(s.drainO o).ret=s.ret:=by
 unfold RmS.drainO;cases qh s.strs o with
 | none=>rfl
 | some t=>simp only[UX]
theorem PV (s:RmS) (w:Og):(s.drain w).ret=s.ret:=by
 unfold RmS.drain;split
 ·rfl
 ·split
  ·have: ∀(L:List Og) (s:RmS),(L.foldl RmS.drainO s).ret=s.ret:=by
    intro L
    induction L with
    | nil=>intro s;rfl
    | cons o L ih=>intro s;rw[List.foldl_cons,ih,UW]
   exact this _ _
  ·unfold RmS.drainL;cases qh s.lanes w.2<;>rfl
theorem Xt (h:qI w0 w k s F) (sub id f:Int):
  Calls prog 128 #[θ #[γ k.B],ι sub,ι id,ι f] w λe w'=>e= .returned (.tuple #[])/\qI w0 w' k {s with book:=jp s.book sub id f} F/\qw F w w'/\qg (λb=>b=k.b) w w':=by
 obtain⟨T,vp,H,x⟩:=h;refine(gI x.bok sub id f).mono ?_;rintro e w' ⟨rfl,b,a⟩;obtain⟨d,G⟩:=x.book b a;exact⟨rfl,d,G,a⟩
theorem qI.blk (h:qI w0 w k s F): ∃vp d,w.heap[k.R]? =some (.cells (zH k vp d s) 88 (0,0)):=by
 obtain⟨T,vp,d,x⟩:=h;exact⟨vp,d,x.blk⟩
theorem qI.nb (h:qI w0 w k s F):k.R≠k.b/\(∀b∈F,b≠k.b)/\k.b<w.heap.size:=by
 obtain⟨T,vp,I,x⟩:=h;obtain⟨_,d,H⟩:=x.all .book;refine⟨λe=> ?_,λb G e=> ?_,H.map.lt⟩
 ·rw[<-e,(x.all .room).1] at d;cases d
 ·rw[<-e,(x.law b G).1] at d;cases d
def Hm (s s':RmS):Prop:=s'.ret=s.ret/\s'.queue=s.queue/\s'.tab=s.tab/\s'.book=s.book/\s'.lanes=s.lanes/\s'.strs=s.strs/\s'.pks=s.pks/\s'.reqs=s.reqs/\s'.cfg=s.cfg
theorem qI.self (h:qI w0 w k s F) (a:qg (λb=>b=k.R) w w') {s':RmS} (blk: ∀vp d,w.heap[k.R]? =some (.cells (zH k vp d s) 88 (0,0))->w'.heap[k.R]? =some (.cells (zH k vp d s') 88 (0,0))) (r:Hm s s'):qI w0 w' k s' F/\qw F w w':=by
 obtain⟨T,vp,d,x⟩:=h;obtain⟨I,J,M,N,O,U,Y,aa,ab⟩:=r;refine x.self a (blk vp d x.blk) (λu H G y=> ?_);cases u<;>first | exact absurd rfl H | exact absurd rfl G | (unfold RmK.Holds at y ⊢;(try simp only[I,J,M,N,O,U,Y,aa,ab]);(try exact y))
theorem qI.cell (h:qI w0 w k s F) (i:Nat) (v:Value) {s':RmS} (e: ∀vp d,(zH k vp d s).setIfInBounds i v=zH k vp d s') (r:Hm s s'):qI w0 (w.setCell ⟨k.R,i,none⟩ v) k s' F/\qw F w (w.setCell ⟨k.R,i,none⟩ v):=
 h.self (qg.set (S:=λb=>b=k.R) (qg.refl _ _) (p:=⟨k.R,i,none⟩) rfl v) (λvp d b=>qB (qp b i v) (e vp d)) r
theorem IB (h:qI w0 w k s F):w.cell? ⟨k.R,16,none⟩=some (ι s.cnt.lost)/\w.frozen? ⟨k.R,16,none⟩=false/\ ∃vp d,w.heap[k.R]? =some (.cells (zH k vp d s) 88 (0,0)):=by
 obtain⟨T,vp,d,x⟩:=h;exact⟨qb x.blk 16 rfl,qd x.blk 16,vp,d,x.blk⟩
theorem ME (h:qI w0 w k s F) (w1 w2:Int) (acc:Bool) (co:0<=w1/\w1<=4) (ay:2<=w1->(qh s.lanes w2).isSome=true) (cn:0<=s.cnt.lost/\s.cnt.lost<=1000000000):
  Calls prog 84 #[γ k.R,θ #[ι w1,ι w2],acc] w λe w'=>e= .returned (.tuple #[])/\qI w0 w' k (s.endW (w1,w2)) F/\qw F w w':=by
 have bZ:=κ (h.stay (qa.alloc w (.cells #[ι w1,ι w2] 36)));have bA:=h.adds (qa.alloc w (.cells #[ι w1,ι w2] 36)) (Fn:=[w.heap.size]) (λb G=>by simp at G;subst G;simp);have aB:=κ (qj w (.cells #[ι w1,ι w2] 36));obtain⟨W1,bB⟩:=ν (w.alloc (.cells #[ι w1,ι w2] 36));rw[bB] at bA aB bZ;have bk:=κ bA;have cX:=κ ay;have cY:=κ cn;have dn:=β0 aB.o;obtain⟨cz,cA⟩:=co;clear h bA ay cn
 go_enter func84,ntmps84
 go_upto_block 0 with fail
 (try rw[bB])
 clear bB
 go_cut [5,6,7,8,9,10,11,12] from 17 to 94 (λ_ _ _ _ _ _ _ _ cH=>qI w0 cH k (s.drain (w1,w2)) ([w.heap.size]++F)/\qw ([w.heap.size]++F) W1 cH)
 case first=>
  by_cases e0:w1=0
  ·subst e0;obtain⟨T,vp,bK,I⟩:=bk.o;have H:=κ I;have dx: ¬RgB k.RQ k.AQ k.R:=by
    obtain⟨cD,cE,_⟩:=I.all .queue;rintro(e | e)
    ·rw[<-e,(I.all .room).1] at cD;cases cD
    ·rw[<-e,(I.all .room).1] at cE;cases cE
   have br:=λ(x:qz (RgB k.RQ k.AQ) W1)=>x.h.blk H.o.blk dx
   have dB:=λx=>β16 (br x);have dA:=λx=>β10 (br x);clear br
   have dK:(s.queue.length:Int)<=8:=by have:=I.que.fit;omega
   obtain⟨dL,dM⟩:=cY.o;clear I
   go_upto_region 8 with fail
   refine QN (RgB k.RQ k.AQ) W1 15 16 [9,12,13,15] ?_
   refine Qs9 ?_
   (refine Ql ?_;intro K d)
   go_call FD (H.o.on (qa.drewN W1 1)) as e aR ⟨⟨cC,cap,rfl⟩,aJ,cF,ce⟩;have aA:Hid (qg (RgB k.RQ k.AQ) W1 aR):=κ (((qg.refl _ _).drewN 1).trans ce);have dl:Hid (qw ([w.heap.size]++F) W1 aR):=κ ((H.o.at.stay (qa.drewN W1 1)).trans cF);have aC:=κ aJ;clear aJ cF ce;refine⟨_,rfl,qi aA.o,d _ _ ?_⟩;clear d K
   iterate 2 (refine qE rfl rfl (qi aA.o) ?_;intro K d;go_big_quiet_op;go_big_quiet_on)
   have dh:=κ (IB aC.o);obtain⟨dD,dF,aT⟩:=dh.o
   (refine Ql ?_;intro K d)
   refine⟨qi aA.o,d _ _ ?_⟩;clear d K
   (refine Ql ?_;intro K d)
   refine⟨qi aA.o,d _ _ ?_⟩;clear d K
   iterate 1 (refine qE rfl rfl (qi aA.o) ?_;intro K d;go_big_quiet_op;go_big_quiet_on)
   (refine Qe ?_;intro K d)
   refine d _ _ ?_;clear d K;refine qA ?_;have ae:=aC.o.cell 16 (ι (s.cnt.lost+s.queue.length)) (s':={s with queue:=[],cnt:={s.cnt with lost:=s.cnt.lost+s.queue.length}}) (λ_ _=>rfl) ⟨rfl,rfl,rfl,rfl,rfl,rfl,rfl,rfl,rfl⟩;have ae:=κ ae;go_wp2;go_meet;exact⟨ae.o.1,dl.o.trans ae.o.2⟩
  ·by_cases e1:w1=1
   ·subst e1;obtain⟨T,vp,bK,I⟩:=bk.o;have H:=κ I;clear I;obtain⟨N,bG⟩:=ν (s.origins);have bV:=κ bG;have bW:=κ H.o.orgsF;rw[bG] at bW;clear bG
    go_wp2_with (go_at_call 42;(go_call bW.o as e aQ ⟨cC,cap,Fn,rfl,ci,cI,cx,aN⟩;have bb:=κ aN;have cV:=κ cI.at;have df:=κ cx;have cZ:=κ ci;clear aN cI cx ci))
    have dj:=κ (H.o.at.stay df.o);have aZ:Hid (s.drain (1,w2)=N.foldl RmS.drainO s):=κ (by rw[<-bV.o];rfl);have dJ:=cZ.o
    go_loopw [63] (λaa wr=> ∃j:Nat,j<=N.length/\aa= ι j/\qI w0 wr k ((N.take j).foldl RmS.drainO s) (Fn++([w.heap.size]++F))/\qw (Fn++([w.heap.size]++F)) aQ wr) (λaa _=>N.length-(intOf aa).toNat)
    case atStart=>exact⟨0,τ,rfl,cV.o,qw.refl _ _⟩
    case round=>
     obtain⟨j,du,rfl,M,J⟩:=hrel;have aw:=κ J;by_cases hlt:j<N.length
     ·have bE:(j:Int)<(N.length:Int):=by omega
      obtain⟨g,rfl,bz,c1⟩:=bb.o wr (λb G=>J.2 b (by simp[G])) j hlt;have bq:Hid (N.take (j+1)=N.take j++[N[j]]):=κ (by rw[List.take_add_one,List.getElem?_eq_getElem hlt];rfl);have ck:(qh ((N.take j).foldl RmS.drainO s).strs N[j]).isSome=true:=by
       rw[Y1];have:N[j]∈s.origins:=by rw[bV.o];exact List.getElem_mem hlt
       obtain⟨t,J⟩:=yB this;rw[J];rfl
      obtain⟨t,bH⟩:=Option.isSome_iff_exists.1 ck;have cc:=κ bH;clear ck J;generalize N[j]=o at *;generalize ct:(N.take j).foldl RmS.drainO s=sj at *;have db:=κ ct;clear ct;obtain⟨O,o2⟩:=o;simp only at bz c1;obtain⟨Y,bc⟩:=ν (wr.alloc (.cells #[ι O,ι o2] 50));have cd:Hid (qa wr Y):=κ (by rw[<-bc];exact qa.alloc _ _);have bN:Hid (Y.heap[wr.heap.size]? =some (.cells #[ι O,ι o2] 50 (0,0))):=κ (by rw[<-bc];exact qj wr _);have bw:=κ (aw.o.trans (M.stay cd.o));obtain⟨af,dy,dz,cv⟩:=M;have ah:RmX af w0 Y k dy dz sj ([wr.heap.size]++(Fn++([w.heap.size]++F))):=cv.adds cd.o (λb G=>by simp at G;subst G;exact⟨Nat.le_refl _,lt_of_block bN.o⟩);have aE:=κ ah;obtain⟨p,di,v,aM,cw⟩:=ah.strAt bH;have ao:=κ cw;have aD:=κ aM;have bJ: ¬af k.R= .str (O,o2):=by rw[(ah.all .room).1];simp
      have bI: ¬af k.MS= .str (O,o2):=by rw[(ah.all .sts).1];simp
      have dw: ¬af wr.heap.size= .str (O,o2):=by rw[(ah.law wr.heap.size η).1];simp
      have cM:=λ(x:qz (λb=>af b= .str (O,o2)/\b≠p) Y)=>β13 (x.h.blk aE.o.blk (λq=>bJ q.1))
      have bs:=λ(x:qz (λb=>af b= .str (O,o2)/\b≠p) Y)=>x.h.blk bN.o (λq=>dw q.1)
      have av:=λx=>β0 (bs x);have aW:=λx=>β1 (bs x);clear bs
      have bj: ∀x:qz (λb=>af b= .str (O,o2)/\b≠p) Y,(Instr.lookup 84 (.map (some k.MS)) (θ #[ι O,ι o2]) false).run prog x.w'= .ok (γ p) x.w':=λx=>by
       have:=ya (aE.o.stm.away x.h (λq=>bI q.1)) (O,o2) false;rw[aD.o] at this;exact this
      have cN:=λ(x:qz (λb=>af b= .str (O,o2)/\b≠p) Y)=>β0 (x.h.blk ao.o.blk (λq=>q.2 rfl))
      clear cv ah cw aM bH;have bT:Hid (∀x,(thJ t.buf.holds).foldl RmS.drain1 {sj with strs:=qx sj.strs (O,o2) {t with buf:=vP t.buf}}=x->sj.drainO (O,o2)=x):=κ (λx e=>by unfold RmS.drainO;rw[cc.o];exact e)
      go_upto_region 13 with fail
      (try rw[bc])
      clear bc bz c1;refine zp (λb=>af b= .str (O,o2)/\b≠p) Y 12 [(0,false),(1,false),(2,false),(3,false),(4,false),(5,false),(6,false),(7,false),(8,false),(11,false),(9,true),(10,false)] ξ ξ ?_
      refine Nx ?_
      (refine Ql ?_;intro K d)
      go_call Wn t.buf ao.o.ok di v _ (ao.o.buf.on (qa.drewN Y 1)) as e w4 ⟨v4,rfl,v5,aH,_⟩;obtain⟨cg,t4⟩:=(aE.o.on (qa.drewN Y 1)).strBuf cc.o aD.o (ao.o.on (qa.drewN Y 1)) aH.step' aH.ok
      have bM:Hid (qg (λb=>af b= .str (O,o2)/\b≠p) Y w4):=κ (((qg.refl _ _).drewN 1).trans (aH.away.mono (λb G=>by
       rcases G with rfl | G
       ·exact⟨ao.o.nb,Ne.symm ao.o.ne⟩
       ·exact ao.o.nv _ G)))
      obtain⟨dN,dE,rfl,aK,cq⟩:=ZH aH.row;have bY:=κ cq;have cU:=κ cg;have dk:=κ ((aE.o.at.stay (qa.drewN Y 1)).trans t4);have bo:Hid (k.b<Y.heap.size):=κ aE.o.at.nb.2.2;clear cq cg t4 aH;refine⟨_,rfl,qi bM.o,d _ _ ?_⟩;clear d K;obtain⟨L,an⟩:=ν (thJ t.buf.holds);rw[an] at bY bT aK;unfold maxLen at aK;simp only[an];clear an
      iterate 1 (refine qE rfl rfl (qi bM.o) ?_;intro K d;go_big_quiet_op;go_big_quiet_on)
      refine qA ?_;clear cM bj cN av aW;generalize {sj with strs:=qx sj.strs (O,o2) {t with buf:=vP t.buf}}=s4 at *;go_wp2;obtain⟨az,rfl⟩: ∃az:World,az=wr:=⟨_,rfl⟩
      go_loopw [78] (λaa wr=> ∃i:Nat,i<=L.length/\aa= ι i/\qI w0 wr k ((L.take i).foldl RmS.drain1 s4) ([az.heap.size]++(Fn++([w.heap.size]++F)))/\qw ([az.heap.size]++(Fn++([w.heap.size]++F))) w4 wr/\qg (λb=>b=k.b) w4 wr) (λaa _=>L.length-(intOf aa).toNat)
      case atStart=>exact⟨0,τ,rfl,cU.o,qw.refl _ _,qg.refl _ _⟩
      case round=>
       obtain⟨i,hi,rfl,M,J,ab⟩:=hrel;have am:=κ M;have cb:=κ J;have bR:=κ ab;clear M J ab;by_cases hlt2:i<L.length
       ·have dt:(i:Int)<(L.length:Int):=by omega
        obtain⟨dG,rfl,c2⟩:=bY.o wr (λb be dr=>bR.o.block b dr (by have:=bo.o;have be:Y.heap.size<=b:=be;omega)) i hlt2;have dc:Hid (L.take (i+1)=L.take i++[L[i]]):=κ (by rw[List.take_add_one,List.getElem?_eq_getElem hlt2];rfl);generalize L[i]=id at *;generalize cr:(L.take i).foldl RmS.drain1 s4=s5 at *;have da:=κ cr;clear cr;go_wp2;obtain⟨bh,cu⟩: ∃bh:World,bh=wr:=⟨_,rfl⟩;have dC:=κ cu;obtain rfl:=cu
        go_loopw [82,10] (λaa dO wr=> ∃n:Nat,n<=6/\aa= ι n/\qI w0 wr k {s5 with book:=xG s5.book (subIds.take n) id 8} ([az.heap.size]++(Fn++([w.heap.size]++F)))/\qw ([az.heap.size]++(Fn++([w.heap.size]++F))) bh wr/\qg (λb=>b=k.b) bh wr) (λaa _ _=>6-(intOf aa).toNat)
        case atStart=>exact⟨0,τ,rfl,am.o,qw.refl _ _,qg.refl _ _⟩
        case round=>
         obtain⟨n,co,rfl,M,J,ab⟩:=hrel;have bX:=κ M;have ca:=κ J;have bP:=κ ab;obtain⟨ai,aj,aT⟩:=M.blk;have bz:=β0 aT;clear M J ab;by_cases hlt3:n<6
         ·have dv:(n:Int)<6:=by omega
          have dd:=κ (QW hlt3)
          go_wp2_with (go_at_call 128;(go_call Xt bX.o (n:Int) id 8 as e cG ⟨rfl,aI,aP,aG⟩;have bl:=κ aI;have bx:=κ aP;have aS:=κ aG;clear aI aP aG))
          go_roundw
          case rel=>exact⟨n+1,τ,by go_num,by have:=bl.o;unfold xG at this ⊢;rw[dd.o,List.foldl_append];exact this,ca.o.trans bx.o,bP.o.trans aS.o⟩
          case measure=>simp[intOf];omega
         ·obtain rfl:n=6:=by omega
          have dv: ¬((6:Nat):Int)<6:=by omega
          go_wp2;go_roundw
          case rel=>exact⟨i+1,τ,by go_num,by rw[dc.o,List.foldl_append,da.o];exact bX.o,cb.o.trans ca.o,bR.o.trans bP.o⟩
          case measure=>simp[intOf];omega
       ·obtain rfl:i=L.length:=by omega
        have dt: ¬(L.length:Int)<(L.length:Int):=by omega
        go_wp2;go_roundw
        case rel=>exact⟨j+1,τ,by go_num,by rw[bq.o,List.foldl_append,db.o];have:=am.o;rw[List.take_length] at this;rw[<-bT.o _ rfl] at this;obtain⟨ad,ai,aj,U⟩:=this;exact⟨ad,ai,aj,U.sub (λb G=>List.mem_append_right _ G)⟩,bw.o.trans ((dk.o.trans cb.o).sub (λb G=>List.mem_append_right _ G))⟩
        case measure=>simp[intOf];omega
     ·obtain rfl:j=N.length:=by omega
      have bE: ¬(N.length:Int)<(N.length:Int):=by omega
      go_wp2;go_meet;exact⟨by rw[aZ.o];have:=M;rw[List.take_length] at this;obtain⟨ad,ai,aj,U⟩:=this;exact⟨ad,ai,aj,U.sub (λb G=>List.mem_append_right _ G)⟩,(dj.o.trans (aw.o.sub (λb G=>List.mem_append_right _ G)))⟩
   ·have ch:2<=w1:=by omega
    obtain⟨T,vp,bK,I⟩:=bk.o;have H:=κ I;obtain⟨l,ay⟩:=Option.isSome_iff_exists.1 (cX.o ch);obtain⟨p,aM,cm⟩:=I.laneAt ay;have cW:=κ cm;have aD:=κ aM;have bU:=κ ay;have bJ: ¬T k.R= .lane w2:=by rw[(I.all .room).1];simp
    have bI: ¬T k.ML= .lane w2:=by rw[(I.all .lns).1];simp
    have bg: ¬T w.heap.size= .lane w2:=by rw[(I.law w.heap.size η).1];simp
    have cL:=λ(x:qz (λb=>T b= .lane w2) W1)=>β12 (x.h.blk H.o.blk bJ)
    have bt:=λ(x:qz (λb=>T b= .lane w2) W1)=>x.h.blk aB.o bg
    have cP:=λx=>β0 (bt x);have cO:=λx=>β1 (bt x);clear bt
    have bj: ∀x:qz (λb=>T b= .lane w2) W1,(Instr.lookup 83 (.map (some k.ML)) (ι w2) false).run prog x.w'= .ok (γ p) x.w':=λx=>by
     have:=xq (H.o.lnm.away x.h bI) w2 false;rw[aD.o] at this;exact this
    have dq:(w1==0)=false:=by simp[e0]
    have be:(w1==1)=false:=by simp[e1]
    have ak:Hid (¬w1=0/\ ¬w1=1):=κ ⟨e0,e1⟩;clear I ay aM cm e0 e1 cz cA ch
    go_upto_region 2 with fail
    refine zp (λb=>T b= .lane w2) W1 12 [(0,false),(1,false),(2,false),(3,false),(4,false),(5,false),(6,false),(7,false),(11,false),(8,true),(9,true),(10,false)] ξ ξ ?_
    refine Qs9 ?_
    (refine Ql ?_;intro K d)
    go_call Z4 w1 w2 _ as e aR ⟨rfl,md⟩;have ax:Hid (qa W1 aR):=κ ((qa.drewN W1 1).trans md);clear md;refine⟨_,rfl,qi (qg.of_more ax.o),d _ _ ?_⟩;clear d K
    (refine Ql ?_;intro K d)
    go_call PZ (cW.o.on ax.o) (xB w1) (Kb w1) as e aQ ⟨⟨v3,rfl,cp⟩,ah,a3⟩;obtain⟨cf,t3⟩:=(H.o.on ax.o).lanePut bU.o aD.o ah a3;have bL:Hid (qg (λb=>T b= .lane w2) W1 aQ):=κ ((qg.of_more ax.o).trans a3);have bO:=κ cf;have bw:Hid (qw ([w.heap.size]++F) W1 aQ):=κ ((H.o.at.stay ax.o).trans t3);obtain⟨cC,cap,rfl,aK,aN⟩:=ZH cp;have bb:=κ aN;clear cp ah a3 cf t3 aN;refine⟨_,rfl,qi bL.o,d _ _ ?_⟩;clear d K;obtain⟨L,an⟩:=ν (KG l (xB w1));have aZ:Hid (s.drain (w1,w2)={s with lanes:=qx s.lanes w2 (vh l (xB w1)),book:=L.foldl (λb id=>jp b w2 id 8) s.book}):=κ (by unfold RmS.drain RmS.drainL;simp only[if_neg ak.o.1,if_neg ak.o.2,bU.o,an]);rw[an] at bb aK;unfold maxLen at aK;simp only[an];clear an
    iterate 1 (refine qE rfl rfl (qi bL.o) ?_;intro K d;go_big_quiet_op;go_big_quiet_on)
    refine qA ?_;clear cL cP cO bj;have bo:Hid (k.b<aR.heap.size):=κ (Nat.lt_of_lt_of_le H.o.at.nb.2.2 ax.o.size);obtain⟨dp,cj⟩:=ν (vh l (xB w1));rw[cj] at bO aZ;clear cj;go_wp2
    go_loopw [28] (λaa wr=> ∃j:Nat,j<=L.length/\aa= ι j/\qI w0 wr k {s with lanes:=qx s.lanes w2 dp,book:=(L.take j).foldl (λb id=>jp b w2 id 8) s.book} ([w.heap.size]++F)/\qw ([w.heap.size]++F) W1 wr/\qg (λb=>b=k.b) aQ wr) (λaa _=>L.length-(intOf aa).toNat)
    case atStart=>exact⟨0,τ,rfl,bO.o,bw.o,qg.refl _ _⟩
    case round=>
     obtain⟨j,du,rfl,M,J,ab⟩:=hrel;have am:=κ M;have aw:=κ J;have bS:=κ ab;clear M J ab;by_cases hlt:j<L.length
     ·have bE:(j:Int)<(L.length:Int):=by omega
      obtain⟨g,rfl,dH⟩:=bb.o wr (λg dI ds=>bS.o.block g ds (by have:=bo.o;omega)) j hlt;have bq:Hid (L.take (j+1)=L.take j++[L[j]]):=κ (by rw[List.take_add_one,List.getElem?_eq_getElem hlt];rfl);generalize L[j]=id at *
      go_upto_region 5 with fail
      obtain⟨nb,cB,_⟩:=am.o.nb;obtain⟨ai,aj,aT⟩:=am.o.blk;have cK:=κ (aw.o.blk η aB.o);have bg:=cB w.heap.size η;have av:=λ(x:qz (λb=>b=k.b) wr)=>β0 (x.h.blk aT nb)
      have cQ:=λ(x:qz (λb=>b=k.b) wr)=>β1 (x.h.blk cK.o bg)
      refine QN (λb=>b=k.b) wr 8 8 [7] ?_
      refine Qs7 ?_
      (refine Ql ?_;intro K d)
      go_call Xt (am.o.on (qa.drewN wr 1)) w2 id 8 as e cG ⟨rfl,aI,aP,aG⟩;have bl:=κ aI;have bx:=κ aP;have aS:Hid (qg (λb=>b=k.b) wr cG):=κ (((qg.refl _ _).drewN 1).trans aG);clear aI aP aG;refine⟨_,rfl,qi aS.o,d _ _ ?_⟩;clear d K av cQ nb cB bg;refine qA ?_;go_wp2;go_roundw
      case rel=>exact⟨j+1,τ,by go_num,by rw[bq.o,List.foldl_append];exact bl.o,aw.o.trans ((am.o.stay (qa.drewN wr 1)).trans bx.o),bS.o.trans aS.o⟩
      case measure=>simp[intOf];omega
     ·obtain rfl:j=L.length:=by omega
      have bE: ¬(L.length:Int)<(L.length:Int):=by omega
      go_wp2;go_meet;exact⟨by rw[aZ.o];have:=am.o;rw[List.take_length] at this;exact this,aw.o⟩
 case rest=>
  obtain⟨aJ,J⟩:=hcut;have aC:=κ aJ;have de:=κ J;have bi:=κ (J.blk η aB.o);clear aJ J dn;obtain⟨au,bf⟩:=ν (s.drain (w1,w2));rw[bf] at aC;have dq:=β0 bi.o;have be:=β1 bi.o;obtain⟨ap,bC⟩:=ν ((vi (w1,w2)).1.1);obtain⟨aq,bD⟩:=ν ((vi (w1,w2)).1.2);obtain⟨ok,bF⟩:=ν ((vi (w1,w2)).2);have bQ:=κ (CM w1 w2 ⟨cz,cA⟩ wc);rw[bC,bD,bF] at bQ;have ba:Hid (s.goesR (w1,w2)=(!ok||(qh s.ret (ap,aq)).getD false)):=κ (by unfold RmS.goesR;rw[bF,<-bC,<-bD]);have bm:Hid (au.ret=s.ret):=κ (by rw[<-bf];exact PV s _);have bn:=κ bf;clear bf bC bD bF;have bp:=κ (bZ.o.trans (de.o.sub (F':=F) (λb G=>List.mem_append_right _ G)))
  go_upto_region 24 with (go_at_call 133;(go_call bQ.o as e w5 ⟨rfl,cy⟩;have dg:=κ cy;clear cy))
  obtain⟨W6,bd⟩:=ν (w5.alloc (.cells #[ι ap,ι aq] 36));have ag:Hid (qa wc W6):=κ (by rw[<-bd];exact dg.o.al _);have cJ:Hid (W6.heap[w5.heap.size]? =some (.cells #[ι ap,ι aq] 36 (0,0))):=κ (by rw[<-bd];exact qj w5 _)
  (try rw[bd])
  clear bd;obtain⟨T,vp,bK,I⟩:=aC.o;have H:=κ I;clear I;have aU:=λ(x:qt W6)=>β8 (qc (ag.o.trans x.h) H.o.blk)
  have bu:=λ(x:qt W6)=>qc (ag.o.trans x.h) bi.o
  have aX:=λx=>β0 (bu x);have aY:=λx=>β1 (bu x);clear bu
  have bv:=λ(x:qt W6)=>qc x.h cJ.o
  have av:=λx=>β0 (bv x);have aW:=λx=>β1 (bv x);clear bv
  have aV: ∀x:qt W6,(Instr.lookup 80 (.map (some k.M1)) (θ #[ι ap,ι aq]) false).run prog x.w'= .ok (μ ((qh au.ret (ap,aq)).getD false)) x.w':=λx=>VH (H.o.retm.more (ag.o.trans x.h)) (ap,aq)
  rw[bm.o] at aV;obtain⟨g,cl⟩:=ν ((qh s.ret (ap,aq)).getD false);rw[cl] at aV ba;clear cl;cases ok with
  | false=>
   have ak:Hid (s.endW (w1,w2)={au with ret:=qx au.ret (w1,w2) true}):=κ (by unfold RmS.endW;rw[ba.o,bn.o,bm.o];rfl);refine qD _ (qa.refl _) ξ ξ ?_
   repeat (go_big_quiet_step (fail))
   refine wpQuiet_nil ?_;intro _ aO;obtain⟨U,rfl⟩:=aO
   go_upto_region 25 with fail
   obtain⟨W7,ar⟩:=ν (U.w');have ac:Hid (qa W6 W7):=κ (by rw[<-ar];exact U.h)
   (try rw[ar])
   clear ar aV av aW;have cR: ∀x:qt W7,x.w'.cell? ⟨k.R,8,none⟩=some (.map (some k.M1)):=λx=>aU ⟨_,ac.o.trans x.h⟩
   have cS: ∀x:qt W7,x.w'.cell? ⟨w.heap.size,0,none⟩=some (ι w1):=λx=>aX ⟨_,ac.o.trans x.h⟩
   have cT: ∀x:qt W7,x.w'.cell? ⟨w.heap.size,1,none⟩=some (ι w2):=λx=>aY ⟨_,ac.o.trans x.h⟩
   clear aU aX aY;refine Qn W7 5 6 [5] ?_
   refine Qq5 ?_
   have aF:=κ (H.o.on (ag.o.trans (ac.o.trans (qa.drewN W7 1))));obtain⟨w9,M,aL,ab,_⟩:=aF.o.retm.update KX underlying80 (w1,w2) true;unfold kO at M;have ae:=κ (aF.o.retMap aL ab);have ad:=κ (H.o.at.stay (ag.o.trans (ac.o.trans (qa.drewN W7 1))));clear aL ab
   (refine Qe ?_;intro K d)
   refine d _ _ ?_;clear d K;refine qA ?_;go_wp2
   (refine bodyPost_end (v:= .tuple #[]) ?re1 rfl ?_;(case re1=>simp[results,results84,go_sem]))
   exact⟨rfl,by rw[ak.o];obtain⟨ad,ai,aj,U⟩:=ae.o.1;exact⟨ad,ai,aj,U.sub (λb G=>List.mem_append_right _ G)⟩,bp.o.trans ((ad.o.trans ae.o.2).sub (λb G=>List.mem_append_right _ G))⟩
  | true=>
   cases g with
   | true=>
    have ak:Hid (s.endW (w1,w2)={au with ret:=qx au.ret (w1,w2) true}):=κ (by unfold RmS.endW;rw[ba.o,bn.o,bm.o];rfl);refine qD _ (qa.refl _) ξ ξ ?_
    repeat (go_big_quiet_step (fail))
    refine wpQuiet_nil ?_;intro _ aO;obtain⟨U,rfl⟩:=aO
    go_upto_region 25 with fail
    obtain⟨W7,ar⟩:=ν (U.w');have ac:Hid (qa W6 W7):=κ (by rw[<-ar];exact U.h)
    (try rw[ar])
    clear ar aV av aW;have cR: ∀x:qt W7,x.w'.cell? ⟨k.R,8,none⟩=some (.map (some k.M1)):=λx=>aU ⟨_,ac.o.trans x.h⟩
    have cS: ∀x:qt W7,x.w'.cell? ⟨w.heap.size,0,none⟩=some (ι w1):=λx=>aX ⟨_,ac.o.trans x.h⟩
    have cT: ∀x:qt W7,x.w'.cell? ⟨w.heap.size,1,none⟩=some (ι w2):=λx=>aY ⟨_,ac.o.trans x.h⟩
    clear aU aX aY;refine Qn W7 5 6 [5] ?_
    refine Qq5 ?_
    have aF:=κ (H.o.on (ag.o.trans (ac.o.trans (qa.drewN W7 1))));obtain⟨w9,M,aL,ab,_⟩:=aF.o.retm.update KX underlying80 (w1,w2) true;unfold kO at M;have ae:=κ (aF.o.retMap aL ab);have ad:=κ (H.o.at.stay (ag.o.trans (ac.o.trans (qa.drewN W7 1))));clear aL ab
    (refine Qe ?_;intro K d)
    refine d _ _ ?_;clear d K;refine qA ?_;go_wp2
    (refine bodyPost_end (v:= .tuple #[]) ?re2 rfl ?_;(case re2=>simp[results,results84,go_sem]))
    exact⟨rfl,by rw[ak.o];obtain⟨ad,ai,aj,U⟩:=ae.o.1;exact⟨ad,ai,aj,U.sub (λb G=>List.mem_append_right _ G)⟩,bp.o.trans ((ad.o.trans ae.o.2).sub (λb G=>List.mem_append_right _ G))⟩
   | false=>
    have ak:Hid (s.endW (w1,w2)=au):=κ (by unfold RmS.endW;rw[ba.o,bn.o];rfl);refine qD _ (qa.refl _) ξ ξ ?_
    repeat (go_big_quiet_step (fail))
    refine wpQuiet_nil ?_;intro _ aO;obtain⟨U,rfl⟩:=aO;go_wp2
    (refine bodyPost_end (v:= .tuple #[]) ?re3 rfl ?_;(case re3=>simp[results,results84,go_sem]))
    have dm:=H.o.at.stay (ag.o.trans U.h);exact⟨rfl,by rw[ak.o];exact⟨_,_,_,(H.o.on (ag.o.trans U.h)).sub (λb G=>List.mem_append_right _ G)⟩,bp.o.trans (dm.sub (λb G=>List.mem_append_right _ G))⟩
end
def NoU (w:World) (b:Nat):Prop:= ∀o k n,k≠IntKind.i64->w.cell? ⟨b,o,none⟩≠some (.int k n)
section
variable {S:Nat->Prop} {w w':World}
theorem SlI.noU {k:IntKind} {v:Value} {l:List Int} (h:SlI k w v l) (N:k≠ .i64) (a:qg S w w') (O: ∀b,S b->NoU w b):SlI k w' v l:=by
 obtain⟨U,cap,H,I,J,M⟩:=h;refine⟨U,cap,H,I,λi hi=> ?_,M⟩;obtain⟨b,Y,e,d,G⟩:=J i hi;exact⟨b,Y,e,Nat.lt_of_lt_of_le d a.size,by rw[a.cells b _ d (λs=>O b s _ _ _ N G)];exact G⟩
theorem SlP.noU {α:Type} {n:Nat} {R:qL α} {v:Value} {l:List α} (h:SlP n R w v l) (a:qg S w w') (ae: ∀b,S b->NoU w b)
  (ad: ∀cs x,R w cs x->R w' cs x/\ ∃j k m,j<n/\k≠IntKind.i64/\cs[j]? =some (.int k m)):SlP n R w' v l:=by
 obtain⟨ag,cap,H,I,J,M⟩:=h;refine⟨ag,cap,H,I,λi hi=> ?_,M⟩;obtain⟨b,ah,cs,e,d,ab,G,N⟩:=J i hi;obtain⟨O,j,k,m,U,aa,ac⟩:=ad cs _ N;refine⟨b,ah,cs,e,Nat.lt_of_lt_of_le d a.size,ab,λaf Y=> ?_,O⟩;rw[a.cells b _ d (λs=>ae b s _ _ _ aa ((G j U).trans ac))];exact G af Y
theorem Qk.noU {cs:List Value} {x:Itm} (h:Qk w cs x) (a:qg S w w') (d: ∀b,S b->NoU w b):Qk w' cs x/\ ∃j k m,j<17/\k≠IntKind.i64/\cs[j]? =some (.int k m):=by
 obtain⟨vb,H,I,vo,rfl,s,G⟩:=h;refine⟨⟨vb,H,I,vo,rfl,⟨s.bl.noU a d ?_,⟨s.ms.asks.noU a d ?_,s.ms.lost.noU ζ a d⟩,s.bo.noU ζ a d⟩,G⟩,10,_,_,ζ, ?_,rfl⟩
 ·rintro cs x ⟨rfl,h⟩;exact⟨⟨rfl,h⟩,0,_,_,ζ,ζ,rfl⟩
 ·rintro cs x ⟨rfl,h⟩;exact⟨⟨rfl,h⟩,0,_,_,ζ,ζ,rfl⟩
 ·decide
theorem PC {v:Value} {l:List Itm} (h:SlP 17 Qk w v l) (a:qg S w w') (d: ∀b,S b->NoU w b):SlP 17 Qk w' v l:=h.noU a d λ_ _ G=>G.noU a d
end
theorem Kf {c:qQ} (G:c.1<=31):(qG c).1.bl.length<=100000:=by
 have d: ∀(r:Rep) (s:RdS),r.bl.length<=100000->(yZ r s).1.bl.length<=100000:=by
  intro r s h;unfold yZ;split
  ·exact h
  ·exact Nat.zero_le _
 unfold qG;split
 ·decide
 ·split
  ·exact d _ _ (by simp only;rw[uz];omega)
  ·split
   ·exact d _ _ (by simp only;rw[uz];omega)
   ·decide
theorem GK {b:List Int} (O:Byt b) (h:(zx b).2=0):(zx b).1.length<=200/\ ∀x∈(zx b).1,CY x:=by
 have d:(jI b).2=0:=by
  cases G:decide ((jI b).2=0) with
  | true=>exact of_decide_eq_true G
  | false=>
   have:=of_decide_eq_false G;unfold zx at h;rw[if_neg this] at h;exact absurd h this
 obtain⟨J,_,_,M⟩:=QY O (k:=(jI b).1) (by rw[<-d]);obtain⟨_,N,_⟩:=Cc J;have U:(zx b).1=(jI b).1.map λc=>(qv c).1:=by
  unfold zx at h ⊢;rw[if_pos d] at h ⊢;split at h
  ·rename_i H;rw[if_pos H]
  ·rename_i H;exact absurd h H
 generalize (jI b).1=l at *;rw[U];refine⟨?_,λx Y=> ?_⟩
 ·rw[List.length_map];by_cases d:0<l.length
  ·exact(Xa M 0 d).2
  ·omega
 ·obtain⟨c,G,rfl⟩:=List.mem_map.1 Y;obtain⟨aa,_,ab⟩:=(zO c).1 (N c G);have I:=Kg (c:=c) τ;unfold qv;split
  ·exact⟨Kf aa,Nat.zero_le _,Nat.zero_le _,Nat.zero_le _⟩
  split
  ·exact⟨Nat.zero_le _,Nat.zero_le _,Nat.zero_le _,by show c.2.2.1.length<=1000000;omega⟩
  ·exact⟨Nat.zero_le _,I.1,I.2,Nat.zero_le _⟩
section
variable {T:Nat->Tg} {w0 w w':World} {k:RmK} {vp vr:Value} {s:RmS} {F:List Nat}
theorem RmX.ints (h:RmX T w0 w k vp vr s F) (m:qa w w') {M:IntKind} {v:Value} {L:List Int} (ab:SlI M w' v L) (Y: ∀q,v.ownBlock=some q->w.heap.size<=q):
  ∃G cap Fn,v= δ G L.length cap/\(L.length:Int)<=9223372036854775807/\RmX T w0 w' k vp vr s (Fn++F)/\ ∀w'':World,(∀b∈Fn,w''.heap[b]? =w'.heap[b]?)-> ∀i (hi:i<L.length),∃b H,G=some ⟨b,H,none⟩/\w''.cell? ⟨b,H+i,none⟩=some (.int M L[i]):=by
 obtain⟨G,cap,rfl,U,aa,_⟩:=ab;refine⟨G,cap,match G with | some a=>if w.heap.size<=a.block/\a.block<w'.heap.size then [a.block] else [] | none=>[],rfl,U,h.adds m (λb d=> ?_),λw'' J i hi=> ?_⟩
 ·cases G with
  | none=>simp at d
  | some a=>
   simp only at d;split at d
   ·rename_i I;simp at d;subst d;exact I
   ·simp at d
 ·obtain⟨b,H,rfl,I,N⟩:=aa i hi;have O:=Y b rfl;simp only[O,I,and_self,if_true] at J;have e:=J b η;refine⟨b,H,rfl, ?_⟩;rw[World.cell?_of_block e,N];simp[hi]
end
end Go.Proofs.YtdgippmmaponfaaGreat
