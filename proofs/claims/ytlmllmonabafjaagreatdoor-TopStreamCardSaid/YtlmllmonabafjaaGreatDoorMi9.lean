/- x -/
import Derived.Test.YtlmllmonabafjaaGreatDoorMi8
import Derived.Outline
namespace Go.Proofs.YtlmllmonabafjaaGreatDoor
open Option renaming some->ϊ,none->ϋ
open Bool renaming true->ό,false->ύ
open Go.Value renaming bool->μ,slice->δ,pointer->π,agg->θ
open Go.IntKind renaming i64->ι,u8->υ,u16->φ,u32->ω,i32->χ,u64->ψ
open _root_.Go.Proofs.Tryz
set_option linter.all false
set_option maxHeartbeats 8000000
open Go.RowKit
set_option maxRecDepth 100000
def LL (w:World):(zeroValue 35).run prog w= .ok (δ ϋ 0 0) w:=by kernel_rfl
def IU (w:World) (A i c:Nat) (v:Value) (d:w.cell? ⟨A,i,ϋ⟩=ϊ v) (G:w.frozen? ⟨A,i,ϋ⟩=ύ):
  (Builtin.clear_ #[225] 0 #[δ (ϊ ⟨A,i,ϋ⟩) 1 c]).run prog w= .ok (.tuple #[]) (w.setCell ⟨A,i,ϋ⟩ (δ ϋ 0 0)):=by
 have H:=LL w;unfold Builtin.clear_;simp[run_underlying underlying225,H,Value.cells,Builtin.zeroCells,storeCells,Addr.add,d,G,go_sem]
def VP: ∀(css:List (List Value)) (i:Nat) (z:Value),(∀c∈css,c.length=1)->css.flatten.set i z=(css.set i [z]).flatten
 | [],i,z,_=>by simp
 | c::css,0,z,h=>by
  obtain⟨x,rfl⟩:=M8.1 (h c η);simp
 | c::css,i+1,z,h=>by
  obtain⟨x,rfl⟩:=M8.1 (h c η);simp[VP css i z (λc d=>h c (by simp[d]))]
section
variable {w:World} {R A room first:Nat} {q:List (List Value)} {ci co cd cg:Int} {css:List (List Value)}
abbrev zR:=qN 1 229 35
def qN.cellY (h:zR w R A room first q ci co cd cg css) {i:Nat} (hi:i<room): ∃v,css.getD i []=[v]/\w.cell? ⟨A,i,ϋ⟩=ϊ v:=by
 have G:i<css.length:=by rw[h.len];exact hi
 have d:css.getD i []=css[i]:=by simp[G]
 obtain⟨v,H⟩:=M8.1 (h.cl css[i] (ϛ G));refine⟨v,by rw[d];exact H, ?_⟩;have:=h.range hi 0 v (by rw[d,H];rfl)
 simpa using this
def qN.setY (h:zR w R A room first q ci co cd cg css) (i:Nat) (z:Value):(w.setCell ⟨A,i,ϋ⟩ z).heap[A]? =ϊ (.cells (css.set i [z]).flatten.toArray 35 (0,0)):=by
 refine qB (qp h.row i z) ?_;rw[<-VP css i z h.cl];simp
def Ng (h:zR w R A room first q ci co cd cg css):
  Calls prog 66 #[γ R] w λe w'=>e= .returned (ι q.length)/\w'=w:=by
 have d:w.cell? ⟨R,2,ϋ⟩=ϊ (ι q.length):=qm h.ring 2 rfl;clear h
 go_enter func66,ntmps66
 go_wp2;go_ret;exact⟨rfl,rfl⟩
def He (h:zR w R A room first q ci co cd cg css):
  Calls prog 139 #[γ R] w λe w'=>e= .returned (μ (decide (q.length=room)))/\ ∃k,w'=w.drewN k:=by
 have H:w.cell? ⟨R,0,ϋ⟩=ϊ (δ (ϊ ⟨A,0,ϋ⟩) room room):=qm h.ring 0 rfl;have I:w.cell? ⟨R,2,ϋ⟩=ϊ (ι q.length):=qm h.ring 2 rfl;have G:((q.length:Int)==(room:Int))=decide (q.length=room):=by by_cases e:q.length=room<;>simp[e];omega
 clear h
 go_enter func139,ntmps139
 go_wp2;refine wp_region_quiet_lit ξ ξ ?_
 repeat (go_big_quiet_step (fail))
 refine wpQuiet_nil ?_;intro _ d;obtain⟨nq,rfl⟩:=d;go_wp2;go_ret;exact⟨rfl,nq,rfl⟩
def BJ (m:Int) (d:m<1∨8<m) (w:World):
  Calls prog 40 #[ι m] w λe w'=>e= .returned (.tuple #[π ϋ,ι 1])/\ql w w':=by
 go_enter func40,ntmps40
 go_wp2
 all_goals (refine bodyPost_ret (v:= .tuple #[π ϋ,ι 1]) (by simp[results,results40,go_sem]) rfl ?_;exact⟨rfl,ρ⟩)
def mkY (n:Nat) (M:1<=n) (N:n<=8) (w:World):
  (Instr.makeSlice 225 (ι (n:Int)) (ι (n:Int))).run prog w= .ok (δ (ϊ ⟨w.heap.size,0,ϋ⟩) n n) (w.alloc (.cells (List.replicate n [δ ϋ 0 0]).flatten.toArray 35)):=by
 obtain⟨J,hi,G,H,I⟩:=info_parts (P:=prog) (e:=35) (z:= δ ϋ 0 0) (size:=1) (bytes:=24) ξ;have d:=run_make (P:=prog) w 225 35 J (δ ϋ 0 0) underlying225 hi G .i64 .i64 n n τ τ (by rw[I];omega) τ;rw[d];simp only[ο,H];rw[Yq _ 1 n rfl ζ];rfl
def ZK (m:Int) (n:Nat) (I:m=n) (d:1<=n) (G:n<=8) (w:World):
  Calls prog 40 #[ι m] w λe w'=>e= .returned (.tuple #[γ (w.heap.size+1),ι 0])/\zR w' (w.heap.size+1) w.heap.size n 0 [] 0 0 0 0 (List.replicate n [δ ϋ 0 0])/\ql w w':=by
 subst I;have J:1<=(n:Int):=by omega
 go_enter func40,ntmps40
 have M:=mkY n d G;go_wp2;refine bodyPost_ret (v:= .tuple #[γ (w.heap.size+1),ι 0]) (by simp[results,results40,go_sem]) rfl ?_;refine⟨rfl, ?_,ρ⟩;exact⟨qC η,qs (qB (qj _ _) (by have:(List.replicate n [δ ϋ 0 0]).flatten=List.replicate n (δ ϋ 0 0):=η;rw[this];simp)) _,τ,η,λc H=>by rw[F8 H];exact⟨rfl,by simp[Value.oneCell']⟩,⟨d,G⟩,τ,η,λi hi=>by simp at hi⟩
def DI (w:World) (R A room first:Nat) (ac:Option Addr) (ae ad:Nat) (T:List (List Value)) (Y aa O U:Int) (css:List (List Value)) (h:zR w R A room first ([δ ac ae ad]::T) Y aa O U css):
  Calls prog 140 #[γ R] w λe w'=>e= .returned (δ ac ae ad)/\zR w' R A room ((first+1)%room) T Y aa O U (css.set first [δ ϋ 0 0])/\jt (RgB R A) w w':=by
 have d:=κ h;have au:w.cell? ⟨R,0,ϋ⟩=ϊ (δ (ϊ ⟨A,0,ϋ⟩) room room):=qm h.ring 0 rfl;have av:w.cell? ⟨R,1,ϋ⟩=ϊ (ι first):=qm h.ring 1 rfl;obtain⟨v,J,a0⟩:=h.cellY h.fst;rw[h.head] at J;injection J with J
 subst J;have an:=h.fst;have ao:(first:Int)<(room:Int):=by omega
 have ap:0<=(first:Int):=by omega
 have aq:=h.pos.1;have ar:=h.pos.2;have I:R<w.heap.size:=qn h.ring;have H:=h.ne;clear h
 go_enter func140,ntmps140
 go_wp2;refine wp_region_quiet_lit ξ ξ ?_
 repeat (go_big_quiet_step (fail))
 refine wpQuiet_nil ?_;intro _ aj;obtain⟨nq,rfl⟩:=aj
 go_wp2_with fail
 have M: ∀x:qz (λb=>b=A) w,x.w'.cell? ⟨R,0,ϋ⟩=ϊ (δ (ϊ ⟨A,0,ϋ⟩) room room):=λx=>x.cell I H (qm d.o.ring 0 rfl)
 have N: ∀x:qz (λb=>b=A) w,x.w'.cell? ⟨R,1,ϋ⟩=ϊ (ι first):=λx=>x.cell I H (qm d.o.ring 1 rfl)
 refine QN (λb=>b=A) w 15 15 [14] ?_
 refine Qq ?_
 refine jR rfl rfl ?_;intro K G;have ai:=IU (w.drewN (nq+1)) A first (room-first) _ a0 (yw d.o.row first)
 unfold jn;go_simp;refine⟨qi σ,G _ _ ?_⟩;clear G K ai M N;refine qA ?_
 go_wp2_with fail
 have M: ∀x:qz (λb=>b=A) w,x.w'.cell? ⟨R,0,ϋ⟩=ϊ (δ (ϊ ⟨A,0,ϋ⟩) room room):=λx=>x.cell I H (qm d.o.ring 0 rfl)
 have N: ∀x:qz (λb=>b=A) w,x.w'.cell? ⟨R,1,ϋ⟩=ϊ (ι first):=λx=>x.cell I H (qm d.o.ring 1 rfl)
 refine QN (λb=>b=A) w 14 15 [12,14] ?_
 refine Nz ?_
 (refine Ql ?_;intro K G)
 refine⟨qi σ,G _ _ ?_⟩;clear G K
 refine Qs1 ?_
 have ab: ¬A=R:=λe=>H e.symm
 have ak:w.frozen? ⟨R,1,ϋ⟩=ύ:=yw d.o.ring 1;have al:w.frozen? ⟨R,2,ϋ⟩=ύ:=yw d.o.ring 2;have aw:w.cell? ⟨R,2,ϋ⟩=ϊ (ι (T.length+1)):=qm d.o.ring 2 (by simp[jV])
 (refine Qe ?_;intro K G)
 refine G _ _ ?_;clear G K;refine qA ?_;have am:(T.length:Int)<=8:=by have:=d.o.fits;simp at this;omega
 go_wp2;go_ret;refine⟨rfl, ?_,σ⟩;have af:((first:Int)+1)%(room:Int)=(((first+1)%room:Nat):Int):=by rw[I0];rfl
 rw[af];have ag:=qo (qr d.o.ring (nq+1)) ⟨A,first,ϋ⟩ (δ ϋ 0 0) H;have ah:=(d.o.more (ql.drewN w (nq+1))).setY first (δ ϋ 0 0)
 refine d.o.took ⟨rfl,by simp[Value.oneCell']⟩ (qB (qp (qp (qr ag 1) 1 _) 2 _) ?_) (qo (qo (qr ah 1) _ _ ab) _ _ ab);simp[jV]
def MY (w:World) (R A room first:Nat) (d:Option Addr) (H G:Nat) (T:List (List Value)) (M N I J:Int) (css:List (List Value)) (h:zR w R A room first ([δ d H G]::T) M N I J css):
  Calls prog 128 #[γ R] w λe w'=>e= .returned (.tuple #[δ d H G,ό])/\(∃co',zR w' R A room ((first+1)%room) T M co' I J (css.set first [δ ϋ 0 0]))/\jt (RgB R A) w w':=by
 have Y:=κ h;have ac:((([δ d H G]::T).length:Int)==0)=ύ:=by simp;omega
 have ad:w.cell? ⟨R,2,ϋ⟩=ϊ (ι ([δ d H G]::T).length):=qm h.ring 2 rfl;have ae:w.cell? ⟨R,5,ϋ⟩=ϊ (ι N):=qm h.ring 5 rfl;have ab:w.frozen? ⟨R,5,ϋ⟩=ύ:=yw h.ring 5;clear h
 go_enter func128,ntmps128
 go_wp2_with (go_at_call 140;(go_call DI _ R A room first d H G T M _ I J css (Y.o.popped _) as e w5 ⟨rfl,O,a5⟩;have aa:=κ O;have U:Hid (jt (RgB R A) w w5):=κ (((jt.refl _ _).set (ϒ rfl) _).trans a5);clear O a5))
 refine bodyPost_ret (v:= .tuple #[δ d H G,ό]) (by simp[results,results128,go_sem]) rfl ?_;exact⟨rfl,⟨_,aa.o⟩,U.o⟩
end
def IL (w:World) (R A room first:Nat) (q:List (List Value)) (M N I J:Int) (css:List (List Value)) (h:zR w R A room first q M N I J css) (an: ∀c∈q,∃G n cp,c=[δ G n cp]):
  Calls prog 124 #[γ R] w λe w'=> ∃v,e= .returned v/\w'.ownsRow w.heap.size 35 1 v q.length q.flatten/\(∃first' cg' css',zR w' R A room first' [] M N I cg' css')/\jt (RgB R A) w w':=by
 obtain⟨aI,aJ,aK,aL,aM⟩:=info_parts (P:=prog) (e:=35) (z:= δ ϋ 0 0) (size:=1) (bytes:=24) ξ;have av:=κ h;have aQ:R<w.heap.size:=qn h.ring;have aP:A<w.heap.size:=qn h.row;have aV:w.cell? ⟨R,2,ϋ⟩=ϊ (ι q.length):=qm h.ring 2 rfl;have aT:(q.length:Int)<=8:=by have:=h.fits;have:=h.pos.2;omega
 have aB:=κ an;clear h an
 go_enter func124,ntmps124
 go_wp2
 go_loopw [3,8] (λu af wr=> ∃(j f:Nat) (cs:List (List Value)),j<=q.length/\af= ι j/\(∃aq ap aj,u= δ aq ap aj)/\wr.ownsRow w.heap.size 35 1 u j (q.take j).flatten/\zR wr R A room f (q.drop j) M N I J cs/\jt (RgB R A) w wr) (λ_ af _=>q.length-(intOf af).toNat)
 case atStart=>exact⟨0,first,css,τ,rfl,⟨_,_,_,rfl⟩,World.ownsRow_nil w _ _ _,av.o,jt.refl _ _⟩
 case round=>
  obtain⟨j,f,cs,aR,rfl,⟨aq,ap,aj,rfl⟩,d,ao,al⟩:=hrel;have ag:=κ d;have H:=κ ao;have aa:=κ al;clear d ao al;by_cases hlt:j<q.length
  ·have ac:q.drop j=q[j]::q.drop (j+1):=F2 hlt;have ae:q.take (j+1)=q.take j++[q[j]]:=by rw[A8,ϖ hlt];rfl
   obtain⟨G,Y,U,am⟩:=aB.o q[j] (ϛ hlt);have aS:(j:Int)<(q.length:Int):=by omega
   rw[am] at ac ae;have ay:=κ (ac▸H.o);have az:=κ ae;clear ac ae H am
   go_wp2_with (first | (go_at_call 140;(go_call DI wr R A room f G Y U (q.drop (j+1)) M N I J cs ay.o as e w5 ⟨rfl,ak,a5⟩;have aw:=κ ak;have ar:=κ a5;have O:=κ (zI ag.o a5 (λb ab e=>by rcases e with e | e<;>omega));have aC:Hid (w.heap.size<=w5.heap.size):=κ (Ϙ aa.o.size a5.size);clear ak a5)) | (at_builtin;(refine wpList_append_own_at _ rfl (.tmp 10) (.tmp 13) 225 rfl w.heap.size 35 aI (δ ϋ 0 0) 1 24 underlying225 aJ aK aL aM rfl ζ _ j (q.take j).flatten rfl (zI O.o (jt.of_more W4) (λb _ e=>e)) ⟨w5.heap.size,0,ϋ⟩ 1 1 [δ G Y U] rfl rfl (λi u aF=>by have:=xy (cs:=[δ G Y U]) (t:=35) (qj w5 (.cells #[δ G Y U] 35)) i u aF;rw[Addr.add_mid];exact this) W5 (by unfold maxLen;omega) τ (by have:=aC.o;simp;omega) ?_;intro aX w6 d ad aD aG;have aA:=κ d;have au:Hid (jt (RgB R A) w w6):=κ (((aa.o.trans ar.o).alc _).grown ad (λb ab=>vV O.o ab));have ax:Hid (zR w6 R A room ((f+1)%room) (q.drop (j+1)) M N I J (cs.set f [δ ϋ 0 0])):=κ ((aw.o.more W4).away (jt.of_grown ad) (λe=>by have:=vV O.o e;omega) (λe=>by have:=vV O.o e;omega));obtain⟨aU,aN,rfl⟩:=zA d;clear d ad aD aG)))
   go_roundw
   case rel=>exact⟨j+1,(f+1)%room,_,τ,by go_num,⟨_,_,_,rfl⟩,by rw[az.o,K6];simpa using aA.o,ax.o,au.o⟩
   case measure=>simp[intOf];omega
  ·obtain rfl:j=q.length:=by omega
   have aW:wr.cell? ⟨R,7,ϋ⟩=ϊ (ι J):=qm H.o.ring 7 rfl;have aO:wr.frozen? ⟨R,7,ϋ⟩=ύ:=yw H.o.ring 7;go_wp2;go_ret;have aH:q.drop q.length=[]:=by simp
   have aE:q.take q.length=q:=by simp
   have ai:=H.o;have ah:=ag.o;rw[aH] at ai;rw[aE] at ah;exact⟨_,rfl,zI ah ((jt.refl (λb=>b=R) _).set rfl _) (λb ab e=>by omega),⟨_,_,_,ai.drained _⟩,aa.o.set (ϒ rfl) _⟩
def UB (w:World) (R A room first:Nat) (q:List (List Value)) (J ab Y aa:Int) (css:List (List Value)) (h:zR w R A room first q J ab Y aa css) (ay:q.length<room) (N:Option Addr) (U O:Nat):
  Calls prog 83 #[γ R,δ N U O] w λe w'=>e= .returned (.tuple #[δ ϋ 0 0,ύ,ι 0])/\(∃ci' cd',zR w' R A room first (q++[[δ N U O]]) ci' ab cd' aa (css.set ((first+q.length)%room) [δ N U O]))/\jt (RgB R A) w w':=by
 have af:=κ h;have aA:w.cell? ⟨R,3,ϋ⟩=ϊ (μ ύ):=qm h.ring 3 rfl;have ax:decide (q.length=room)=ύ:=by simp;omega
 clear h
 go_enter func83,ntmps83
 go_wp2_with (go_at_call 139;(go_call He af.o as e al ⟨rfl,aI,ai⟩;rw[ax];have ad:Hid (ql w al):=κ (by rw[ai];exact ql.drewN _ _);clear ai))
 obtain⟨G,ac⟩: ∃G,G=al:=⟨_,rfl⟩;have d:Hid (zR G R A room first q J ab Y aa css):=κ (by rw[ac];exact af.o.more ad.o);have ae:Hid (jt (RgB R A) w G):=κ (by rw[ac];exact jt.of_more ad.o);have az:q.length<room:=ay;rw[<-ac];clear ac ad aA;obtain⟨f,ah⟩: ∃f,Hid (f=first):=⟨_,κ rfl⟩;obtain⟨cs,ag⟩: ∃cs,Hid (cs=css):=⟨_,κ rfl⟩;rw[<-ah.o,<-ag.o] at d;have an: ∀x:qt G,x.w'.cell? ⟨R,0,ϋ⟩=ϊ (δ (ϊ ⟨A,0,ϋ⟩) room room):=λx=>x.cell (qn d.o.ring) (qm d.o.ring 0 rfl)
 have ao: ∀x:qt G,x.w'.cell? ⟨R,1,ϋ⟩=ϊ (ι f):=λx=>x.cell (qn d.o.ring) (qm d.o.ring 1 rfl)
 have ap: ∀x:qt G,x.w'.cell? ⟨R,2,ϋ⟩=ϊ (ι q.length):=λx=>x.cell (qn d.o.ring) (qm d.o.ring 2 rfl)
 have aF:((f:Int)+(q.length:Int))%(room:Int)=(((f+q.length)%room:Nat):Int):=by rw[I0];rfl
 have aw:(f+q.length)%room<room:=I6 _ τ;have hi:(((f+q.length)%room:Nat):Int)<(room:Int):=by omega
 have aG:=d.o.pos;have aD:=d.o.fst;have aE:(f:Int)<=8:=by omega
 have aH:(q.length:Int)<=8:=by omega
 obtain⟨v0,_,ar⟩:=d.o.cellY aw;have au:G.frozen? ⟨A,(f+q.length)%room,ϋ⟩=ύ:=yw d.o.row _;generalize av:(f+q.length)%room=I at *;refine Qn G 21 22 [21] ?_
 refine NA ?_
 (refine Qe ?_;intro K aj)
 refine aj _ _ ?_;clear aj K an ao ap;refine qA ?_;obtain⟨W6,M⟩:=ν ((G.drewN 1).setCell ⟨A,I,ϋ⟩ (δ N U O));have am:Hid (jt (RgB R A) w W6):=κ (by rw[<-M];exact(ae.o.drewN 1).set (ϔ rfl) _);have H:Hid (W6.heap[R]? =ϊ (.cells (jV A room f q.length J ab Y aa) 229 (0,0))):=κ (by rw[<-M];exact qo (qr d.o.ring 1) _ _ d.o.ne);have aq:Hid (W6.heap[A]? =ϊ (.cells (cs.set I [δ N U O]).flatten.toArray 35 (0,0))):=κ (by rw[<-M];exact(d.o.more (ql.drewN G 1)).setY I _)
 (try rw[M])
 clear M ae ar au;have aJ:W6.cell? ⟨R,2,ϋ⟩=ϊ (ι q.length):=qm H.o 2 rfl;have aB:W6.frozen? ⟨R,2,ϋ⟩=ύ:=yw H.o 2;have aK:W6.cell? ⟨R,4,ϋ⟩=ϊ (ι J):=qm H.o 4 rfl;have aC:W6.frozen? ⟨R,4,ϋ⟩=ύ:=yw H.o 4;go_wp2;refine bodyPost_ret (v:= .tuple #[δ ϋ 0 0,ύ,ι 0]) (by simp[results,results83,go_sem]) rfl ?_;have ak:R≠A:=d.o.ne;subst av;obtain rfl:=ah.o;obtain rfl:=ag.o;refine⟨rfl,⟨wrap64 (J+1),Y,d.o.put az ⟨rfl,by simp[Value.oneCell']⟩ ?_ ?_⟩,(am.o.set (ϒ rfl) _).set (ϒ rfl) _⟩
 ·exact qB (qp (qp H.o 2 _) 4 _) rfl
 ·exact qo (qo aq.o _ _ (C0 ak)) _ _ (C0 ak)
def UC (w:World) (R A room first:Nat) (M:Option Addr) (O N:Nat) (T:List (List Value)) (J aa H Y:Int) (css:List (List Value)) (h:zR w R A room first ([δ M O N]::T) J aa H Y css) (ah:([δ M O N]::T).length=room) (ac:Option Addr) (ae ad:Nat):
  Calls prog 83 #[γ R,δ ac ae ad] w λe w'=>e= .returned (.tuple #[δ M O N,ό,ι 0])/\(∃ci' cd',zR w' R A room ((first+1)%room) (T++[[δ ac ae ad]]) ci' aa cd' Y ((css.set first [δ ϋ 0 0]).set ((((first+1)%room)+T.length)%room) [δ ac ae ad]))/\jt (RgB R A) w w':=by
 have al:=κ h;have aH:w.cell? ⟨R,3,ϋ⟩=ϊ (μ ύ):=qm h.ring 3 rfl;have aF:decide (([δ M O N]::T).length=room)=ό:=by simp at ah ⊢;exact ah
 clear h
 go_enter func83,ntmps83
 go_wp2_with (first | (go_at_call 139;(go_call He al.o as e au ⟨rfl,aR,ap⟩;rw[aF];have ai:Hid (ql w au):=κ (by rw[ap];exact ql.drewN _ _);clear ap)) | (go_at_call 140;(go_call DI au R A room first M O N T J aa H Y css (al.o.more ai.o) as e w5 ⟨rfl,af,a5⟩;have am:=κ af;have aj:Hid (jt (RgB R A) w w5):=κ ((jt.of_more ai.o).trans a5);have aI:w5.cell? ⟨R,6,ϋ⟩=ϊ (ι H):=qm af.ring 6 rfl;have aC:w5.frozen? ⟨R,6,ϋ⟩=ύ:=yw af.ring 6;clear af a5)))
 obtain⟨G,ag⟩:=ν (w5.setCell ⟨R,6,ϋ⟩ (ι (wrap64 (H+1))));have d:Hid (zR G R A room ((first+1)%room) T J aa (wrap64 (H+1)) Y (css.set first [δ ϋ 0 0])):=κ (by rw[<-ag];exact am.o.dropped _);have ak:Hid (jt (RgB R A) w G):=κ (by rw[<-ag];exact aj.o.set (ϒ rfl) _);have aG:T.length<room:=by simp at ah;omega
 (try rw[ag])
 clear ag ai am aj aI aC aH ah;obtain⟨f,ao⟩: ∃f,Hid (f=((first+1)%room)):=⟨_,κ rfl⟩;obtain⟨cs,an⟩: ∃cs,Hid (cs=(css.set first [δ ϋ 0 0])):=⟨_,κ rfl⟩;rw[<-ao.o,<-an.o] at d;have aw: ∀x:qt G,x.w'.cell? ⟨R,0,ϋ⟩=ϊ (δ (ϊ ⟨A,0,ϋ⟩) room room):=λx=>x.cell (qn d.o.ring) (qm d.o.ring 0 rfl)
 have ax: ∀x:qt G,x.w'.cell? ⟨R,1,ϋ⟩=ϊ (ι f):=λx=>x.cell (qn d.o.ring) (qm d.o.ring 1 rfl)
 have ay: ∀x:qt G,x.w'.cell? ⟨R,2,ϋ⟩=ϊ (ι T.length):=λx=>x.cell (qn d.o.ring) (qm d.o.ring 2 rfl)
 have aO:((f:Int)+(T.length:Int))%(room:Int)=(((f+T.length)%room:Nat):Int):=by rw[I0];rfl
 have aE:(f+T.length)%room<room:=I6 _ τ;have hi:(((f+T.length)%room:Nat):Int)<(room:Int):=by omega
 have aP:=d.o.pos;have aL:=d.o.fst;have aM:(f:Int)<=8:=by omega
 have aN:0<=(f:Int):=by omega
 have aQ:(T.length:Int)<=8:=by omega
 obtain⟨v0,_,aA⟩:=d.o.cellY aE;have aB:G.frozen? ⟨A,(f+T.length)%room,ϋ⟩=ύ:=yw d.o.row _;generalize aD:(f+T.length)%room=I at *;refine Qn G 21 22 [21] ?_
 refine NA ?_
 (refine Qe ?_;intro K aq)
 refine aq _ _ ?_;clear aq K aw ax ay;refine qA ?_;obtain⟨W6,ab⟩:=ν ((G.drewN 1).setCell ⟨A,I,ϋ⟩ (δ ac ae ad));have av:Hid (jt (RgB R A) w W6):=κ (by rw[<-ab];exact(ak.o.drewN 1).set (ϔ rfl) _);have U:Hid (W6.heap[R]? =ϊ (.cells (jV A room f T.length J aa (wrap64 (H+1)) Y) 229 (0,0))):=κ (by rw[<-ab];exact qo (qr d.o.ring 1) _ _ d.o.ne);have az:Hid (W6.heap[A]? =ϊ (.cells (cs.set I [δ ac ae ad]).flatten.toArray 35 (0,0))):=κ (by rw[<-ab];exact(d.o.more (ql.drewN G 1)).setY I _)
 (try rw[ab])
 clear ab ak aA aB;have aS:W6.cell? ⟨R,2,ϋ⟩=ϊ (ι T.length):=qm U.o 2 rfl;have aJ:W6.frozen? ⟨R,2,ϋ⟩=ύ:=yw U.o 2;have aT:W6.cell? ⟨R,4,ϋ⟩=ϊ (ι J):=qm U.o 4 rfl;have aK:W6.frozen? ⟨R,4,ϋ⟩=ύ:=yw U.o 4;go_wp2;refine bodyPost_ret (v:= .tuple #[δ M O N,ό,ι 0]) (by simp[results,results83,go_sem]) rfl ?_;have ar:R≠A:=d.o.ne;subst aD;obtain rfl:=ao.o;obtain rfl:=an.o;refine⟨rfl,⟨wrap64 (J+1),wrap64 (H+1),d.o.put aG ⟨rfl,by simp[Value.oneCell']⟩ ?_ ?_⟩,(av.o.set (ϒ rfl) _).set (ϒ rfl) _⟩
 ·exact qB (qp (qp U.o 2 _) 4 _) rfl
 ·exact qo (qo az.o _ _ (C0 ar)) _ _ (C0 ar)
def TJ (d:Bool) (G sq st sc:Int) (w:World):(binOp .neq 71 (θ #[μ d,υ G,φ sq,ω st,ω sc]) (θ #[μ d,υ G,φ sq,ω st,ω sc])).run prog w= .ok (μ ύ) w:=by
 have H:prog.stoodInHeld 71=ύ:=by kernel_rfl
 rw[run_neq_struct,show (10000:Nat)=9999+1 from rfl,run_equalIn_agg w 9999 71 _ _ ξ H];simp[go_sem]
def SO:prog.eqGuardType prog.depth 71=ύ:=by kernel_rfl
def Sj (p:Pk) (aI aF vp aJ aG aH:Value) (w:World) (h:PkS w aI aF vp p) (k:PkS w aJ aG aH p):
  Calls prog 17 #[(Γq p aI aF vp),(Γq p aJ aG aH)] w λe w'=>e= .returned (μ ό)/\ql w w':=by
 obtain⟨az,aw,ax⟩:=h;obtain⟨aC,aA,aB⟩:=k;have aK:=κ aw;have aL:=κ ax;have aN:=κ aA;have aO:=κ aB;have aM:=κ az;have aP:=κ aC;obtain⟨os,O,rfl,bt,-⟩:=az;obtain⟨ad,ke,rfl,-⟩:=aw;obtain⟨af,ab,rfl,-⟩:=ax;obtain⟨ah,U,rfl,-⟩:=aC;obtain⟨ae,aa,rfl,-⟩:=aA;obtain⟨ag,ac,rfl,-⟩:=aB;obtain⟨H,I,sq,st,sc,ss,J,M,d,pl⟩:=p;simp only at *;have bo:=λw=>TJ H I sq st sc w
 have bn:=SO;have ay:=(ql.alloc w (.cells #[μ H,υ I,φ sq,ω st,ω sc,(δ os ss.length O),J,φ M,(δ ad d.length ke),(δ af pl.length ab)] 73)).al (.cells #[μ H,υ I,φ sq,ω st,ω sc,(δ ah ss.length U),J,φ M,(δ ae d.length aa),(δ ag pl.length ac)] 73);have au:((w.alloc (.cells #[μ H,υ I,φ sq,ω st,ω sc,(δ os ss.length O),J,φ M,(δ ad d.length ke),(δ af pl.length ab)] 73)).alloc (.cells #[μ H,υ I,φ sq,ω st,ω sc,(δ ah ss.length U),J,φ M,(δ ae d.length aa),(δ ag pl.length ac)] 73)).heap[w.heap.size]? =ϊ (.cells #[μ H,υ I,φ sq,ω st,ω sc,(δ os ss.length O),J,φ M,(δ ad d.length ke),(δ af pl.length ab)] 73):=qs (qj w _) _;have av:((w.alloc (.cells #[μ H,υ I,φ sq,ω st,ω sc,(δ os ss.length O),J,φ M,(δ ad d.length ke),(δ af pl.length ab)] 73)).alloc (.cells #[μ H,υ I,φ sq,ω st,ω sc,(δ ah ss.length U),J,φ M,(δ ae d.length aa),(δ ag pl.length ac)] 73)).heap[w.heap.size+1]? =ϊ (.cells #[μ H,υ I,φ sq,ω st,ω sc,(δ ah ss.length U),J,φ M,(δ ae d.length aa),(δ ag pl.length ac)] 73):=qC η;have N:=κ ay;have aj:=κ au;have ak:=κ av;clear ay au av
 go_enter func17,ntmps17
 go_wp2;generalize ((w.alloc (.cells #[μ H,υ I,φ sq,ω st,ω sc,(δ os ss.length O),J,φ M,(δ ad d.length ke),(δ af pl.length ab)] 73)).alloc (.cells #[μ H,υ I,φ sq,ω st,ω sc,(δ ah ss.length U),J,φ M,(δ ae d.length aa),(δ ag pl.length ac)] 73))=W2 at *
 go_loopw [5] (λi wr=> ∃j:Nat,j<=ss.length/\i= ι j/\ql W2 wr) (λi _=>ss.length-(intOf i).toNat)
 case atStart=>exact⟨0,τ,rfl,ql.refl _⟩
 case round=>
  obtain⟨j,bu,rfl,G⟩:=hrel;have am:=κ G;by_cases hlt:j<ss.length
  ·have c1:=β5 (qq G aj.o);have c2:=β5 (qq G ak.o);obtain⟨_,_,bb,-,aq,-⟩:=(aM.o.keep N.o).keep G;obtain⟨_,_,bc,-,ar,-⟩:=(aP.o.keep N.o).keep G;cases bb;cases bc;obtain⟨ao,aD,rfl,be,aZ⟩:=aq j hlt;obtain⟨ap,aE,rfl,bf,ba⟩:=ar j hlt;generalize ss.getD j 0=x at *;have bw:(j:Int)<(ss.length:Int):=by omega
   have bv:(0:Int)<=(j:Int):=by omega
   clear aq ar G;have bh:w.heap.size<wr.heap.size:=ϗ (qn aj.o) am.o.size;have n2:w.heap.size+1<wr.heap.size:=ϗ (qn ak.o) am.o.size;have bj: ∀x:qt wr,x.w'.cell? ⟨w.heap.size,5,ϋ⟩=ϊ (δ (ϊ ⟨ao,aD,ϋ⟩) ss.length O):=λx=>x.cell bh c1
   have bk: ∀x:qt wr,x.w'.cell? ⟨w.heap.size+1,5,ϋ⟩=ϊ (δ (ϊ ⟨ap,aE,ϋ⟩) ss.length U):=λx=>x.cell n2 c2
   have bl: ∀y:qt wr,y.w'.cell? ⟨ao,aD+j,ϋ⟩=ϊ (ω x):=λy=>y.cell be aZ
   have bm: ∀y:qt wr,y.w'.cell? ⟨ap,aE+j,ϋ⟩=ϊ (ω x):=λy=>y.cell bf ba
   go_wp2_with fail
   refine qD _ (ql.refl _) ξ ξ ?_
   repeat (go_big_quiet_step (fail))
   refine wpQuiet_nil ?_;intro _ bd;obtain⟨bi,rfl⟩:=bd;go_wp2;go_roundw
   case rel=>exact⟨j+1,τ,by go_num,am.o.trans bi.h⟩
   case measure=>simp[intOf];omega
  ·obtain rfl:j=ss.length:=by omega
   have ai:=κ (qq G aj.o);have an:=κ (qq G ak.o);have c5:=β5 ai.o;have bp:=β8 ai.o;have br:=β8 an.o;have aT:=κ ((aK.o.keep N.o).keep G);have aU:=κ ((aN.o.keep N.o).keep G);have aV:=κ ((aL.o.keep N.o).keep G);have aX:=κ ((aO.o.keep N.o).keep G);have aS:=κ (N.o.trans G);clear G
   go_wp2_with (first | (go_at_call 60;((with_reducible refine(Xp d d _ _ _ aT.o aU.o).mono ?_);rintro e w5 ⟨rfl,Y,rfl⟩;rw[ϭ (rfl:d=d)];have bq:=β9 (qr ai.o Y);have bs:=β9 (qr an.o Y);have aQ:=κ (aS.o.dr Y);have aW:=κ (aV.o.keep (ql.drewN _ Y));have aY:=κ (aX.o.keep (ql.drewN _ Y)))) | (go_at_call 60;((with_reducible refine(Xp pl pl _ _ _ aW.o aY.o).mono ?_);rintro e w6 ⟨rfl,bg,rfl⟩;rw[ϭ (rfl:pl=pl)];have aR:=κ (aQ.o.dr bg))))
   go_ret;exact⟨rfl,by have:=aR.o;simpa using this⟩
def RP (p:Pk) (G d vp:Value) (w:World) (h:PkS w G d vp p):
  Calls prog 18 #[(Γq p G d vp)] w λe w'=>e= .returned ((Γq p G d vp))/\ql w w':=by
 obtain⟨⟨os,M,rfl,-⟩,⟨O,ke,rfl,-⟩,⟨U,J,rfl,-⟩⟩:=h;obtain⟨N,aa,sq,st,sc,ss,I,Y,H,pl⟩:=p;simp only
 go_enter func18,ntmps18
 go_wp2
 (refine bodyPost_ret (v:= θ #[μ N,υ aa,φ sq,ω st,ω sc,(δ os ss.length M),I,φ Y,(δ O H.length ke),(δ U pl.length J)]) ?rr1 rfl ?_;(case rr1=>(simp[results,results18,go_sem])))
 exact⟨rfl,W4.al _⟩
section
open Go.RowKit Go.Lib
def aB:List Int:=[128,201,0,1,0,0,0,5,129,206,0,2,0,0,0,0,0,0,0,7,132,206,0,6,0,0,0,0,0,0,0,0,0,0,0,8,0,0,0,0,0,0,0,9,0,0,0,0,129,205,0,3,0,0,0,0,0,0,0,7,0,1,0,1,128,203,0,0]
end
end Go.Proofs.YtlmllmonabafjaaGreatDoor
