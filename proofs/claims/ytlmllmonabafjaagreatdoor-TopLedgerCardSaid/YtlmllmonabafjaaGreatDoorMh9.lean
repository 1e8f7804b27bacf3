/- x -/
import Derived.ChangeKeysEq
import Derived.Test.YtlmllmonabafjaaGreatDoorMh7
import Derived.Outline
namespace Go.Proofs.YtlmllmonabafjaaGreatDoor
open Option renaming some->ϊ,none->ϋ
open Bool renaming true->ό,false->ύ
open Go.Value renaming bool->μ,slice->δ,pointer->π,agg->θ
open Go.IntKind renaming i64->ι,u8->υ,u16->φ,u32->ω,i32->χ,u64->ψ
open _root_.Go.Proofs.Tryz
set_option linter.all false
set_option maxHeartbeats 8000000
open Go.RowKit
set_option maxRecDepth 100000
variable {i:TypeInfo} {n:Nat}
def LL (w:World):(zeroValue 35).run prog w= .ok (δ ϋ 0 0) w:=by kernel_rfl
def IU (w:World) (A i c:Nat) (v:Value) (d:w.cell? ⟨A,i,ϋ⟩=ϊ v) (H:w.frozen? ⟨A,i,ϋ⟩=ύ):
  (Builtin.clear_ #[225] 0 #[δ (ϊ ⟨A,i,ϋ⟩) 1 c]).run prog w= .ok (.tuple #[]) (w.setCell ⟨A,i,ϋ⟩ (δ ϋ 0 0)):=by
 have I:=LL w;unfold Builtin.clear_;simp[run_underlying underlying225,I,Value.cells,Builtin.zeroCells,storeCells,Addr.add,d,H,go_sem]
def VP: ∀(css:List (List Value)) (i:Nat) (z:Value),(∀c∈css,c.length=1)->css.flatten.set i z=(css.set i [z]).flatten
 | [],i,z,_=>by simp
 | c::css,0,z,h=>by
  obtain⟨x,rfl⟩:=O0.1 (h c η);simp
 | c::css,i+1,z,h=>by
  obtain⟨x,rfl⟩:=O0.1 (h c η);simp[VP css i z (λc d=>h c (by simp[d]))]
section
variable {w:World} {R A room first:Nat} {q:List (List Value)} {ci co cd cg:Int} {css:List (List Value)}
abbrev zR:=qN 1 229 35
def qN.cellY (h:zR w R A room first q ci co cd cg css) {i:Nat} (hi:i<room): ∃v,css.getD i []=[v]/\w.cell? ⟨A,i,ϋ⟩=ϊ v:=by
 have H:i<css.length:=by rw[h.len];exact hi
 have d:css.getD i []=css[i]:=by simp[H]
 obtain⟨v,I⟩:=O0.1 (h.cl css[i] (ϡ H));refine⟨v,by rw[d];exact I, ?_⟩;have:=h.range hi 0 v (by rw[d,I];rfl)
 simpa using this
def qN.setY (h:zR w R A room first q ci co cd cg css) (i:Nat) (z:Value):(w.setCell ⟨A,i,ϋ⟩ z).heap[A]? =ϊ (.cells (css.set i [z]).flatten.toArray 35 (0,0)):=by
 refine qB (qp h.row i z) ?_;rw[<-VP css i z h.cl];simp
def Ng (h:zR w R A room first q ci co cd cg css):
  Calls prog 66 #[γ R] w λe w'=>e= .returned (ι q.length)/\w'=w:=by
 have d:w.cell? ⟨R,2,ϋ⟩=ϊ (ι q.length):=qm h.ring 2 rfl;clear h
 go_enter func66,ntmps66
 go_wp2;go_ret;exact⟨rfl,rfl⟩
def He (h:zR w R A room first q ci co cd cg css):
  Calls prog 139 #[γ R] w λe w'=>e= .returned (μ (decide (q.length=room)))/\ ∃k,w'=w.drewN k:=by
 have I:w.cell? ⟨R,0,ϋ⟩=ϊ (δ (ϊ ⟨A,0,ϋ⟩) room room):=qm h.ring 0 rfl;have J:w.cell? ⟨R,2,ϋ⟩=ϊ (ι q.length):=qm h.ring 2 rfl;have H:((q.length:Int)==(room:Int))=decide (q.length=room):=by by_cases e:q.length=room<;>simp[e];omega
 clear h
 go_enter func139,ntmps139
 go_wp2;refine wp_region_quiet_lit ξ ξ ?_
 repeat (go_big_quiet_step (fail))
 refine wpQuiet_nil ?_;intro _ d;obtain⟨nq,rfl⟩:=d;go_wp2;go_ret;exact⟨rfl,nq,rfl⟩
def BJ (m:Int) (d:m<1∨8<m) (w:World):
  Calls prog 40 #[ι m] w λe w'=>e= .returned (.tuple #[π ϋ,ι 1])/\ql w w':=by
 go_enter func40,ntmps40
 go_wp2
 all_goals (refine bodyPost_ret (v:= .tuple #[π ϋ,ι 1]) (by simp[results,results40,go_sem]) rfl ?_;exact⟨rfl,ρ⟩)
def mkY (n:Nat) (N:1<=n) (O:n<=8) (w:World):
  (Instr.makeSlice 225 (ι (n:Int)) (ι (n:Int))).run prog w= .ok (δ (ϊ ⟨w.heap.size,0,ϋ⟩) n n) (w.alloc (.cells (List.replicate n [δ ϋ 0 0]).flatten.toArray 35)):=by
 obtain⟨M,hi,H,I,J⟩:=info_parts (P:=prog) (e:=35) (z:= δ ϋ 0 0) (size:=1) (bytes:=24) ξ;have d:=run_make (P:=prog) w 225 35 M (δ ϋ 0 0) underlying225 hi H .i64 .i64 n n τ τ (by rw[J];omega) τ;rw[d];simp only[Ψ,I];rw[Yq _ 1 n rfl ζ];rfl
def ZK (m:Int) (n:Nat) (J:m=n) (d:1<=n) (H:n<=8) (w:World):
  Calls prog 40 #[ι m] w λe w'=>e= .returned (.tuple #[γ (w.heap.size+1),ι 0])/\zR w' (w.heap.size+1) w.heap.size n 0 [] 0 0 0 0 (List.replicate n [δ ϋ 0 0])/\ql w w':=by
 subst J;have M:1<=(n:Int):=by omega
 go_enter func40,ntmps40
 have N:=mkY n d H;go_wp2;refine bodyPost_ret (v:= .tuple #[γ (w.heap.size+1),ι 0]) (by simp[results,results40,go_sem]) rfl ?_;refine⟨rfl, ?_,ρ⟩;exact⟨qC η,qs (qB (qj _ _) (by have:(List.replicate n [δ ϋ 0 0]).flatten=List.replicate n (δ ϋ 0 0):=η;rw[this];simp)) _,τ,η,λc I=>by rw[G2 I];exact⟨rfl,by simp[Value.oneCell']⟩,⟨d,H⟩,τ,η,λi hi=>by simp at hi⟩
def DI (w:World) (R A room first:Nat) (ad:Option Addr) (af ae:Nat) (T:List (List Value)) (aa ab U Y:Int) (css:List (List Value)) (h:zR w R A room first ([δ ad af ae]::T) aa ab U Y css):
  Calls prog 140 #[γ R] w λe w'=>e= .returned (δ ad af ae)/\zR w' R A room ((first+1)%room) T aa ab U Y (css.set first [δ ϋ 0 0])/\jt (RgB R A) w w':=by
 have d:=κ h;have av:w.cell? ⟨R,0,ϋ⟩=ϊ (δ (ϊ ⟨A,0,ϋ⟩) room room):=qm h.ring 0 rfl;have aw:w.cell? ⟨R,1,ϋ⟩=ϊ (ι first):=qm h.ring 1 rfl;obtain⟨v,M,a0⟩:=h.cellY h.fst;rw[h.head] at M;injection M with M
 subst M;have ao:=h.fst;have ap:(first:Int)<(room:Int):=by omega
 have aq:0<=(first:Int):=by omega
 have ar:=h.pos.1;have au:=h.pos.2;have J:R<w.heap.size:=qn h.ring;have I:=h.ne;clear h
 go_enter func140,ntmps140
 go_wp2;refine wp_region_quiet_lit ξ ξ ?_
 repeat (go_big_quiet_step (fail))
 refine wpQuiet_nil ?_;intro _ ak;obtain⟨nq,rfl⟩:=ak
 go_wp2_with fail
 have N: ∀x:qz (λb=>b=A) w,x.w'.cell? ⟨R,0,ϋ⟩=ϊ (δ (ϊ ⟨A,0,ϋ⟩) room room):=λx=>x.cell J I (qm d.o.ring 0 rfl)
 have O: ∀x:qz (λb=>b=A) w,x.w'.cell? ⟨R,1,ϋ⟩=ϊ (ι first):=λx=>x.cell J I (qm d.o.ring 1 rfl)
 refine QN (λb=>b=A) w 15 15 [14] ?_
 refine Qq ?_
 refine jR rfl rfl ?_;intro K H;have aj:=IU (w.drewN (nq+1)) A first (room-first) _ a0 (yw d.o.row first)
 unfold jn;go_simp;refine⟨qi σ,H _ _ ?_⟩;clear H K aj N O;refine qA ?_
 go_wp2_with fail
 have N: ∀x:qz (λb=>b=A) w,x.w'.cell? ⟨R,0,ϋ⟩=ϊ (δ (ϊ ⟨A,0,ϋ⟩) room room):=λx=>x.cell J I (qm d.o.ring 0 rfl)
 have O: ∀x:qz (λb=>b=A) w,x.w'.cell? ⟨R,1,ϋ⟩=ϊ (ι first):=λx=>x.cell J I (qm d.o.ring 1 rfl)
 refine QN (λb=>b=A) w 14 15 [12,14] ?_
 refine Nz ?_
 (refine Ql ?_;intro K H)
 refine⟨qi σ,H _ _ ?_⟩;clear H K
 refine Qs1 ?_
 have ac: ¬A=R:=λe=>I e.symm
 have al:w.frozen? ⟨R,1,ϋ⟩=ύ:=yw d.o.ring 1;have am:w.frozen? ⟨R,2,ϋ⟩=ύ:=yw d.o.ring 2;have ax:w.cell? ⟨R,2,ϋ⟩=ϊ (ι (T.length+1)):=qm d.o.ring 2 (by simp[jV])
 (refine Qe ?_;intro K H)
 refine H _ _ ?_;clear H K;refine qA ?_;have an:(T.length:Int)<=8:=by have:=d.o.fits;simp at this;omega
 go_wp2;go_ret;refine⟨rfl, ?_,σ⟩;have ag:((first:Int)+1)%(room:Int)=(((first+1)%room:Nat):Int):=by rw[I5];rfl
 rw[ag];have ah:=qo (qr d.o.ring (nq+1)) ⟨A,first,ϋ⟩ (δ ϋ 0 0) I;have ai:=(d.o.more (ql.drewN w (nq+1))).setY first (δ ϋ 0 0)
 refine d.o.took ⟨rfl,by simp[Value.oneCell']⟩ (qB (qp (qp (qr ah 1) 1 _) 2 _) ?_) (qo (qo (qr ai 1) _ _ ac) _ _ ac);simp[jV]
def MY (w:World) (R A room first:Nat) (d:Option Addr) (I H:Nat) (T:List (List Value)) (N O J M:Int) (css:List (List Value)) (h:zR w R A room first ([δ d I H]::T) N O J M css):
  Calls prog 128 #[γ R] w λe w'=>e= .returned (.tuple #[δ d I H,ό])/\(∃co',zR w' R A room ((first+1)%room) T N co' J M (css.set first [δ ϋ 0 0]))/\jt (RgB R A) w w':=by
 have aa:=κ h;have ad:((([δ d I H]::T).length:Int)==0)=ύ:=by simp;omega
 have ae:w.cell? ⟨R,2,ϋ⟩=ϊ (ι ([δ d I H]::T).length):=qm h.ring 2 rfl;have af:w.cell? ⟨R,5,ϋ⟩=ϊ (ι O):=qm h.ring 5 rfl;have ac:w.frozen? ⟨R,5,ϋ⟩=ύ:=yw h.ring 5;clear h
 go_enter func128,ntmps128
 go_wp2_with (go_at_call 140;(go_call DI _ R A room first d I H T N _ J M css (aa.o.popped _) as e w5 ⟨rfl,U,a5⟩;have ab:=κ U;have Y:Hid (jt (RgB R A) w w5):=κ (((jt.refl _ _).set (ϑ rfl) _).trans a5);clear U a5))
 refine bodyPost_ret (v:= .tuple #[δ d I H,ό]) (by simp[results,results128,go_sem]) rfl ?_;exact⟨rfl,⟨_,ab.o⟩,Y.o⟩
end
def IL (w:World) (R A room first:Nat) (q:List (List Value)) (N O J M:Int) (css:List (List Value)) (h:zR w R A room first q N O J M css) (ao: ∀c∈q,∃H n cp,c=[δ H n cp]):
  Calls prog 124 #[γ R] w λe w'=> ∃v,e= .returned v/\w'.ownsRow w.heap.size 35 1 v q.length q.flatten/\(∃first' cg' css',zR w' R A room first' [] N O J cg' css')/\jt (RgB R A) w w':=by
 obtain⟨aJ,aK,aL,aM,aN⟩:=info_parts (P:=prog) (e:=35) (z:= δ ϋ 0 0) (size:=1) (bytes:=24) ξ;have aw:=κ h;have aR:R<w.heap.size:=qn h.ring;have aQ:A<w.heap.size:=qn h.row;have aW:w.cell? ⟨R,2,ϋ⟩=ϊ (ι q.length):=qm h.ring 2 rfl;have aU:(q.length:Int)<=8:=by have:=h.fits;have:=h.pos.2;omega
 have aC:=κ ao;clear h ao
 go_enter func124,ntmps124
 go_wp2
 go_loopw [3,8] (λu ag wr=> ∃(j f:Nat) (cs:List (List Value)),j<=q.length/\ag= ι j/\(∃ar aq ak,u= δ ar aq ak)/\wr.ownsRow w.heap.size 35 1 u j (q.take j).flatten/\zR wr R A room f (q.drop j) N O J M cs/\jt (RgB R A) w wr) (λ_ ag _=>q.length-(intOf ag).toNat)
 case atStart=>exact⟨0,first,css,τ,rfl,⟨_,_,_,rfl⟩,World.ownsRow_nil w _ _ _,aw.o,jt.refl _ _⟩
 case round=>
  obtain⟨j,f,cs,aS,rfl,⟨ar,aq,ak,rfl⟩,d,ap,am⟩:=hrel;have ah:=κ d;have I:=κ ap;have ab:=κ am;clear d ap am;by_cases hlt:j<q.length
  ·have ad:q.drop j=q[j]::q.drop (j+1):=F8 hlt;have af:q.take (j+1)=q.take j++[q[j]]:=by rw[A9,ϖ hlt];rfl
   obtain⟨H,aa,Y,an⟩:=aC.o q[j] (ϡ hlt);have aT:(j:Int)<(q.length:Int):=by omega
   rw[an] at ad af;have az:=κ (ad▸I.o);have aA:=κ af;clear ad af I an
   go_wp2_with (first | (go_at_call 140;(go_call DI wr R A room f H aa Y (q.drop (j+1)) N O J M cs az.o as e w5 ⟨rfl,al,a5⟩;have ax:=κ al;have au:=κ a5;have U:=κ (zI ah.o a5 (λb ac e=>by rcases e with e | e<;>omega));have aD:Hid (w.heap.size<=w5.heap.size):=κ (Ϙ ab.o.size a5.size);clear al a5)) | (at_builtin;(refine wpList_append_own_at _ rfl (.tmp 10) (.tmp 13) 225 rfl w.heap.size 35 aJ (δ ϋ 0 0) 1 24 underlying225 aK aL aM aN rfl ζ _ j (q.take j).flatten rfl (zI U.o (jt.of_more X8) (λb _ e=>e)) ⟨w5.heap.size,0,ϋ⟩ 1 1 [δ H aa Y] rfl rfl (λi u aG=>by have:=xy (cs:=[δ H aa Y]) (t:=35) (qj w5 (.cells #[δ H aa Y] 35)) i u aG;rw[Addr.add_mid];exact this) X9 (by unfold maxLen;omega) τ (by have:=aD.o;simp;omega) ?_;intro aY w6 d ae aE aH;have aB:=κ d;have av:Hid (jt (RgB R A) w w6):=κ (((ab.o.trans au.o).alc _).grown ae (λb ac=>vV U.o ac));have ay:Hid (zR w6 R A room ((f+1)%room) (q.drop (j+1)) N O J M (cs.set f [δ ϋ 0 0])):=κ ((ax.o.more X8).away (jt.of_grown ae) (λe=>by have:=vV U.o e;omega) (λe=>by have:=vV U.o e;omega));obtain⟨aV,aO,rfl⟩:=zA d;clear d ae aE aH)))
   go_roundw
   case rel=>exact⟨j+1,(f+1)%room,_,τ,by go_num,⟨_,_,_,rfl⟩,by rw[aA.o,M4];simpa using aB.o,ay.o,av.o⟩
   case measure=>simp[intOf];omega
  ·obtain rfl:j=q.length:=by omega
   have aX:wr.cell? ⟨R,7,ϋ⟩=ϊ (ι M):=qm I.o.ring 7 rfl;have aP:wr.frozen? ⟨R,7,ϋ⟩=ύ:=yw I.o.ring 7;go_wp2;go_ret;have aI:q.drop q.length=[]:=by simp
   have aF:q.take q.length=q:=by simp
   have aj:=I.o;have ai:=ah.o;rw[aI] at aj;rw[aF] at ai;exact⟨_,rfl,zI ai ((jt.refl (λb=>b=R) _).set rfl _) (λb ac e=>by omega),⟨_,_,_,aj.drained _⟩,ab.o.set (ϑ rfl) _⟩
def UB (w:World) (R A room first:Nat) (q:List (List Value)) (M ac aa ab:Int) (css:List (List Value)) (h:zR w R A room first q M ac aa ab css) (az:q.length<room) (O:Option Addr) (Y U:Nat):
  Calls prog 83 #[γ R,δ O Y U] w λe w'=>e= .returned (.tuple #[δ ϋ 0 0,ύ,ι 0])/\(∃ci' cd',zR w' R A room first (q++[[δ O Y U]]) ci' ac cd' ab (css.set ((first+q.length)%room) [δ O Y U]))/\jt (RgB R A) w w':=by
 have ag:=κ h;have aB:w.cell? ⟨R,3,ϋ⟩=ϊ (μ ύ):=qm h.ring 3 rfl;have ay:decide (q.length=room)=ύ:=by simp;omega
 clear h
 go_enter func83,ntmps83
 go_wp2_with (go_at_call 139;(go_call He ag.o as e am ⟨rfl,aJ,aj⟩;rw[ay];have ae:Hid (ql w am):=κ (by rw[aj];exact ql.drewN _ _);clear aj))
 obtain⟨H,ad⟩: ∃H,H=am:=⟨_,rfl⟩;have d:Hid (zR H R A room first q M ac aa ab css):=κ (by rw[ad];exact ag.o.more ae.o);have af:Hid (jt (RgB R A) w H):=κ (by rw[ad];exact jt.of_more ae.o);have aA:q.length<room:=az;rw[<-ad];clear ad ae aB;obtain⟨f,ai⟩: ∃f,Hid (f=first):=⟨_,κ rfl⟩;obtain⟨cs,ah⟩: ∃cs,Hid (cs=css):=⟨_,κ rfl⟩;rw[<-ai.o,<-ah.o] at d;have ao: ∀x:qt H,x.w'.cell? ⟨R,0,ϋ⟩=ϊ (δ (ϊ ⟨A,0,ϋ⟩) room room):=λx=>x.cell (qn d.o.ring) (qm d.o.ring 0 rfl)
 have ap: ∀x:qt H,x.w'.cell? ⟨R,1,ϋ⟩=ϊ (ι f):=λx=>x.cell (qn d.o.ring) (qm d.o.ring 1 rfl)
 have aq: ∀x:qt H,x.w'.cell? ⟨R,2,ϋ⟩=ϊ (ι q.length):=λx=>x.cell (qn d.o.ring) (qm d.o.ring 2 rfl)
 have aG:((f:Int)+(q.length:Int))%(room:Int)=(((f+q.length)%room:Nat):Int):=by rw[I5];rfl
 have ax:(f+q.length)%room<room:=J3 _ τ;have hi:(((f+q.length)%room:Nat):Int)<(room:Int):=by omega
 have aH:=d.o.pos;have aE:=d.o.fst;have aF:(f:Int)<=8:=by omega
 have aI:(q.length:Int)<=8:=by omega
 obtain⟨v0,_,au⟩:=d.o.cellY ax;have av:H.frozen? ⟨A,(f+q.length)%room,ϋ⟩=ύ:=yw d.o.row _;generalize aw:(f+q.length)%room=I at *;refine Qn H 21 22 [21] ?_
 refine NA ?_
 (refine Qe ?_;intro K ak)
 refine ak _ _ ?_;clear ak K ao ap aq;refine qA ?_;obtain⟨W6,N⟩:=ν ((H.drewN 1).setCell ⟨A,I,ϋ⟩ (δ O Y U));have an:Hid (jt (RgB R A) w W6):=κ (by rw[<-N];exact(af.o.drewN 1).set (ϕ rfl) _);have J:Hid (W6.heap[R]? =ϊ (.cells (jV A room f q.length M ac aa ab) 229 (0,0))):=κ (by rw[<-N];exact qo (qr d.o.ring 1) _ _ d.o.ne);have ar:Hid (W6.heap[A]? =ϊ (.cells (cs.set I [δ O Y U]).flatten.toArray 35 (0,0))):=κ (by rw[<-N];exact(d.o.more (ql.drewN H 1)).setY I _)
 (try rw[N])
 clear N af au av;have aK:W6.cell? ⟨R,2,ϋ⟩=ϊ (ι q.length):=qm J.o 2 rfl;have aC:W6.frozen? ⟨R,2,ϋ⟩=ύ:=yw J.o 2;have aL:W6.cell? ⟨R,4,ϋ⟩=ϊ (ι M):=qm J.o 4 rfl;have aD:W6.frozen? ⟨R,4,ϋ⟩=ύ:=yw J.o 4;go_wp2;refine bodyPost_ret (v:= .tuple #[δ ϋ 0 0,ύ,ι 0]) (by simp[results,results83,go_sem]) rfl ?_;have al:R≠A:=d.o.ne;subst aw;obtain rfl:=ai.o;obtain rfl:=ah.o;refine⟨rfl,⟨wrap64 (M+1),aa,d.o.put aA ⟨rfl,by simp[Value.oneCell']⟩ ?_ ?_⟩,(an.o.set (ϑ rfl) _).set (ϑ rfl) _⟩
 ·exact qB (qp (qp J.o 2 _) 4 _) rfl
 ·exact qo (qo ar.o _ _ (C4 al)) _ _ (C4 al)
def UC (w:World) (R A room first:Nat) (N:Option Addr) (U O:Nat) (T:List (List Value)) (M ab J aa:Int) (css:List (List Value)) (h:zR w R A room first ([δ N U O]::T) M ab J aa css) (ai:([δ N U O]::T).length=room) (ad:Option Addr) (af ae:Nat):
  Calls prog 83 #[γ R,δ ad af ae] w λe w'=>e= .returned (.tuple #[δ N U O,ό,ι 0])/\(∃ci' cd',zR w' R A room ((first+1)%room) (T++[[δ ad af ae]]) ci' ab cd' aa ((css.set first [δ ϋ 0 0]).set ((((first+1)%room)+T.length)%room) [δ ad af ae]))/\jt (RgB R A) w w':=by
 have am:=κ h;have aI:w.cell? ⟨R,3,ϋ⟩=ϊ (μ ύ):=qm h.ring 3 rfl;have aG:decide (([δ N U O]::T).length=room)=ό:=by simp at ai ⊢;exact ai
 clear h
 go_enter func83,ntmps83
 go_wp2_with (first | (go_at_call 139;(go_call He am.o as e av ⟨rfl,aS,aq⟩;rw[aG];have aj:Hid (ql w av):=κ (by rw[aq];exact ql.drewN _ _);clear aq)) | (go_at_call 140;(go_call DI av R A room first N U O T M ab J aa css (am.o.more aj.o) as e w5 ⟨rfl,ag,a5⟩;have an:=κ ag;have ak:Hid (jt (RgB R A) w w5):=κ ((jt.of_more aj.o).trans a5);have aJ:w5.cell? ⟨R,6,ϋ⟩=ϊ (ι J):=qm ag.ring 6 rfl;have aD:w5.frozen? ⟨R,6,ϋ⟩=ύ:=yw ag.ring 6;clear ag a5)))
 obtain⟨H,ah⟩:=ν (w5.setCell ⟨R,6,ϋ⟩ (ι (wrap64 (J+1))));have d:Hid (zR H R A room ((first+1)%room) T M ab (wrap64 (J+1)) aa (css.set first [δ ϋ 0 0])):=κ (by rw[<-ah];exact an.o.dropped _);have al:Hid (jt (RgB R A) w H):=κ (by rw[<-ah];exact ak.o.set (ϑ rfl) _);have aH:T.length<room:=by simp at ai;omega
 (try rw[ah])
 clear ah aj an ak aJ aD aI ai;obtain⟨f,ap⟩: ∃f,Hid (f=((first+1)%room)):=⟨_,κ rfl⟩;obtain⟨cs,ao⟩: ∃cs,Hid (cs=(css.set first [δ ϋ 0 0])):=⟨_,κ rfl⟩;rw[<-ap.o,<-ao.o] at d;have ax: ∀x:qt H,x.w'.cell? ⟨R,0,ϋ⟩=ϊ (δ (ϊ ⟨A,0,ϋ⟩) room room):=λx=>x.cell (qn d.o.ring) (qm d.o.ring 0 rfl)
 have ay: ∀x:qt H,x.w'.cell? ⟨R,1,ϋ⟩=ϊ (ι f):=λx=>x.cell (qn d.o.ring) (qm d.o.ring 1 rfl)
 have az: ∀x:qt H,x.w'.cell? ⟨R,2,ϋ⟩=ϊ (ι T.length):=λx=>x.cell (qn d.o.ring) (qm d.o.ring 2 rfl)
 have aP:((f:Int)+(T.length:Int))%(room:Int)=(((f+T.length)%room:Nat):Int):=by rw[I5];rfl
 have aF:(f+T.length)%room<room:=J3 _ τ;have hi:(((f+T.length)%room:Nat):Int)<(room:Int):=by omega
 have aQ:=d.o.pos;have aM:=d.o.fst;have aN:(f:Int)<=8:=by omega
 have aO:0<=(f:Int):=by omega
 have aR:(T.length:Int)<=8:=by omega
 obtain⟨v0,_,aB⟩:=d.o.cellY aF;have aC:H.frozen? ⟨A,(f+T.length)%room,ϋ⟩=ύ:=yw d.o.row _;generalize aE:(f+T.length)%room=I at *;refine Qn H 21 22 [21] ?_
 refine NA ?_
 (refine Qe ?_;intro K ar)
 refine ar _ _ ?_;clear ar K ax ay az;refine qA ?_;obtain⟨W6,ac⟩:=ν ((H.drewN 1).setCell ⟨A,I,ϋ⟩ (δ ad af ae));have aw:Hid (jt (RgB R A) w W6):=κ (by rw[<-ac];exact(al.o.drewN 1).set (ϕ rfl) _);have Y:Hid (W6.heap[R]? =ϊ (.cells (jV A room f T.length M ab (wrap64 (J+1)) aa) 229 (0,0))):=κ (by rw[<-ac];exact qo (qr d.o.ring 1) _ _ d.o.ne);have aA:Hid (W6.heap[A]? =ϊ (.cells (cs.set I [δ ad af ae]).flatten.toArray 35 (0,0))):=κ (by rw[<-ac];exact(d.o.more (ql.drewN H 1)).setY I _)
 (try rw[ac])
 clear ac al aB aC;have aT:W6.cell? ⟨R,2,ϋ⟩=ϊ (ι T.length):=qm Y.o 2 rfl;have aK:W6.frozen? ⟨R,2,ϋ⟩=ύ:=yw Y.o 2;have aU:W6.cell? ⟨R,4,ϋ⟩=ϊ (ι M):=qm Y.o 4 rfl;have aL:W6.frozen? ⟨R,4,ϋ⟩=ύ:=yw Y.o 4;go_wp2;refine bodyPost_ret (v:= .tuple #[δ N U O,ό,ι 0]) (by simp[results,results83,go_sem]) rfl ?_;have au:R≠A:=d.o.ne;subst aE;obtain rfl:=ap.o;obtain rfl:=ao.o;refine⟨rfl,⟨wrap64 (M+1),wrap64 (J+1),d.o.put aH ⟨rfl,by simp[Value.oneCell']⟩ ?_ ?_⟩,(aw.o.set (ϑ rfl) _).set (ϑ rfl) _⟩
 ·exact qB (qp (qp Y.o 2 _) 4 _) rfl
 ·exact qo (qo aA.o _ _ (C4 au)) _ _ (C4 au)
section
variable {P:Program} {t e:TypeId} {q:IntKind}
def PM (d:P.underlying e=ϊ (.int q)) (n:Nat) (a b:Int) (w:World):(Op.equalIn (n+1) e (.int q a) (.int q b)).run P w= .ok (decide (a=b)) w:=by
 unfold Op.equalIn;rw[Sem.run_bind,run_underlying d];simp[Result.andThen,Sem.run,pure];rw[C6];simp
def Vt (d: ∀w,(isAgg e).run P w= .ok ύ w) (cs:Array Value) (i:Nat) (v:Value) (w:World) (h:cs[i]? =ϊ v):(part e cs i).run P w= .ok v w:=by
 unfold part;rw[Sem.run_bind,d];simp[Result.andThen,h,Sem.run,pure]
def wV (H:P.underlying e=ϊ (.int q)) (d: ∀w,(isAgg e).run P w= .ok ύ w) (n:Nat) (la lb:List Int) (w:World): ∀(is:List Nat),(∀i∈is,i<la.length/\i<lb.length)->
  (Op.eqItems (n+1) e 1 (la.map (Value.int q)).toArray (lb.map (Value.int q)).toArray is).run P w= .ok (decide (∀i∈is,la.getD i 0=lb.getD i 0)) w
 | [],_=>by simp[Op.eqItems,Sem.run,pure]
 | i::is,h=>by
  obtain⟨I,J⟩:=h i ϛ;have N:=wV H d n la lb w is (λj M=>h j (ϫ _ M));unfold Op.eqItems;rw[Sem.run_bind,Vt d _ _ (.int q (la.getD i 0)) w (by simp[I])];simp only[Result.andThen_ok];rw[Sem.run_bind,Vt d _ _ (.int q (lb.getD i 0)) w (by simp[J])];simp only[Result.andThen_ok];rw[Sem.run_bind,PM H];simp only[Result.andThen_ok];by_cases e:la.getD i 0=lb.getD i 0
  ·rw[Ϫ e];simp only[Bool.not_true,Ϭ,C2,N]
   congr 1
   rw[C6];simp only[B3,List.forall_mem_cons];exact⟨λh=>⟨e,h⟩,λh=>h.2⟩
  ·rw[Ϩ e];simp only[Bool.not_false,A7];have: ¬ ∀j∈i::is,la.getD j 0=lb.getD j 0:=λh=>e (h i ϛ)
   rw[Ϩ this];rfl
def VJ {la lb:List Int} (I:la.length=n) (J:lb.length=n):(∀i∈List.range n,la.getD i 0=lb.getD i 0)↔la=lb:=by
 constructor
 ·intro h;refine List.ext_getElem τ λi d H=> ?_
  have:=h i (F3.2 τ)
  simpa [d,H] using this
 ·rintro rfl i _;rfl
def Fz (N:P.underlying t=ϊ (.array n e)) (hi:P.info? e=ϊ i) (J:P.cellsOf e=1) (M:P.underlying e=ϊ (.int q)) (d: ∀w,(isAgg e).run P w= .ok ύ w) (la lb:List Int) (H:la.length=n) (I:lb.length=n) (w:World):
  (binOp .eql t (θ (la.map (Value.int q)).toArray) (θ (lb.map (Value.int q)).toArray)).run P w= .ok (μ (decide (la=lb))) w:=by
 rw[run_eql_struct,show (10000:Nat)=9998+1+1 from rfl,run_equalIn_array w (9998+1) _ _ N hi,J,wV M d 9998 la lb w _ (λi hi=>by have:=F3.1 hi;omega)];simp only[Result.andThen_ok]
 congr 2
 rw[C6];simp only[B3];exact VJ H I
def Fy (N:P.underlying t=ϊ (.array n e)) (hi:P.info? e=ϊ i) (J:P.cellsOf e=1) (M:P.underlying e=ϊ (.int q)) (d: ∀w,(isAgg e).run P w= .ok ύ w) (la lb:List Int) (H:la.length=n) (I:lb.length=n) (w:World):
  (binOp .neq t (θ (la.map (Value.int q)).toArray) (θ (lb.map (Value.int q)).toArray)).run P w= .ok (μ (!decide (la=lb))) w:=by
 rw[run_neq_struct,show (10000:Nat)=9998+1+1 from rfl,run_equalIn_array w (9998+1) _ _ N hi,J,wV M d 9998 la lb w _ (λi hi=>by have:=F3.1 hi;omega)];simp only[Result.andThen_ok]
 congr 3
 rw[C6];simp only[B3];exact VJ H I
end
section
open Go.RowKit Go.Lib
def aB:List Int:=[128,201,0,1,0,0,0,5,129,206,0,2,0,0,0,0,0,0,0,7,132,206,0,6,0,0,0,0,0,0,0,0,0,0,0,8,0,0,0,0,0,0,0,9,0,0,0,0,129,205,0,3,0,0,0,0,0,0,0,7,0,1,0,1,128,203,0,0]
end
end Go.Proofs.YtlmllmonabafjaaGreatDoor
