/- x -/
import Derived.Test.YtlmllmonabafjaaGreatDoorMh2
namespace Go.Proofs.YtlmllmonabafjaaGreatDoor
open Option renaming some->ϊ,none->ϋ
open Bool renaming true->ό,false->ύ
open Go.Value renaming bool->μ,slice->δ,pointer->π,agg->θ
open Go.IntKind renaming i64->ι,u8->υ,u16->φ,u32->ω,i32->χ,u64->ψ
open _root_.Go.Proofs.Tryz
set_option linter.all false
set_option maxHeartbeats 8000000
open Go.RowKit
set_option maxRecDepth 100000
variable {w w':World} {css q:List (List Value)} {xs:List Value} {v vo:Value} {S N:Nat->Prop} {b base first room size:Nat} {s s':LnS}
def LM (w:World):(zeroValue 56).run prog w= .ok (Γs) w:=by kernel_rfl
def zsO:(Builtin.zeroCells (Γs:Value).cells 1).toList=Γs:=by kernel_rfl
def zokO:(Γs:List Value).length=2/\ ∀u∈(Γs:List Value),u.oneCell'=ό:=⟨rfl,by simp[Value.oneCell']⟩
section
open _root_.Go.Proofs.Tryz renaming func232->Ξb,ntmps232->Ξc,underlying56->Ξg,underlying53->Ξi,results232->Ξm
open _root_.Go.Proofs.YtlmllmonabafjaaGreatDoor renaming Ν2->Ξa,Γs->Ξd,Ν56->Ξe,Ν332->Ξf,Ν53->Ξh,LM->Ξj,zsO->Ξk,zokO->Ξl
def DJ (w:World) (R A room first:Nat) (c:List Value) (T:List (List Value)) (ae af ac ad:Int) (css:List (List Value)) (h:qN 2 332 56 w R A room first (c::T) ae af ac ad css):
  Calls prog 232 #[γ R] w λe w'=>e= .returned (θ c.toArray)/\qN 2 332 56 w' R A room ((first+1)%room) T ae af ac ad (css.set first Γs)/\jt (RgB R A) w w':=Ψ2
end
def Nh {R A:Nat} {I J d H:Int} (h:qN 2 332 56 w R A room first q I J d H css):
  Calls prog 115 #[γ R] w λe w'=>e= .returned (ι q.length)/\w'=w:=by
 have M:w.cell? ⟨R,2,ϋ⟩=ϊ (ι q.length):=qm h.ring 2 rfl;clear h
 go_enter func115,ntmps115
 go_wp2;go_ret;exact⟨rfl,rfl⟩
section
open _root_.Go.Proofs.Tryz renaming func258->Ξa,ntmps258->Ξb
def Mi {R A:Nat} {I J d H:Int} (h:qN 2 332 56 w R A room first q I J d H css):
  Calls prog 258 #[γ R] w λe w'=>e= .returned (μ (decide (q.length=room)))/\ ∃k,w'=w.drewN k:=Ψ3
end
def mkO (n:Nat) (N:1<=n) (O:n<=8) (w:World):
  (Instr.makeSlice 53 (ι (n:Int)) (ι (n:Int))).run prog w= .ok (δ (ϊ ⟨w.heap.size,0,ϋ⟩) n n) (w.alloc (.cells (List.replicate n (Γs:List Value)).flatten.toArray 56)):=by
 obtain⟨M,hi,H,I,J⟩:=info_parts (P:=prog) (e:=56) (z:= Γs) (size:=2) (bytes:=32) ξ;have d:=run_make (P:=prog) w 53 56 M (Γs) underlying53 hi H .i64 .i64 n n τ τ (by rw[J];omega) τ;rw[d];simp only[Ψ,I];rw[Yq _ 2 n rfl ζ];rfl
def Po (m:Int) (n:Nat) (J:m=n) (d:1<=n) (H:n<=8) (w:World):
  Calls prog 148 #[ι m] w λe w'=>e= .returned (.tuple #[γ (w.heap.size+1),ι 0])/\qN 2 332 56 w' (w.heap.size+1) w.heap.size n 0 [] 0 0 0 0 (List.replicate n (Γs:List Value))/\ql w w':=by
 subst J;have M:1<=(n:Int):=by omega
 go_enter func148,ntmps148
 have N:=mkO n d H;go_wp2;refine bodyPost_ret (v:= .tuple #[γ (w.heap.size+1),ι 0]) (by simp[results,results148,go_sem]) rfl ?_;refine⟨rfl, ?_,ρ⟩;exact⟨qC η,qs (qB (qj _ _) rfl) _,τ,η,λc I=>by rw[G2 I];exact zokO,⟨d,H⟩,τ,η,λi hi=>by simp at hi⟩
section
open _root_.Go.Proofs.Tryz renaming func175->Ξb,ntmps175->Ξc,results175->Ξg,underlying56->Ξh
open _root_.Go.Proofs.YtlmllmonabafjaaGreatDoor renaming Ν2->Ξa,DJ->Ξd,Γs->Ξe,Ν56->Ξf
def Na (w:World) (R A room first:Nat) (c:List Value) (T:List (List Value)) (J O H I:Int) (css:List (List Value)) (h:qN 2 332 56 w R A room first (c::T) J O H I css):
  Calls prog 175 #[γ R] w λe w'=>e= .returned (.tuple #[θ c.toArray,ό])/\(∃co',qN 2 332 56 w' R A room ((first+1)%room) T J co' H I (css.set first Γs))/\jt (RgB R A) w w':=Ψ4
end
section
open _root_.Go.Proofs.Tryz renaming func202->Ξc,ntmps202->Ξd,underlying56->Ξj,results202->Ξk
open _root_.Go.Proofs.YtlmllmonabafjaaGreatDoor renaming Ν56->Ξa,Γs->Ξb,Mi->Ξe,Ν2->Ξf,Ν332->Ξg,zokO->Ξh,DJ->Ξi
def OW (w:World) (R A room first:Nat) (O:List (List Value)) (aa aj Y ai:Int) (css:List (List Value)) (h:qN 2 332 56 w R A room first O aa aj Y ai css) (x:List Value) (ad:x.length=2/\ ∀u∈x,u.oneCell'=ό) (ab:Bool) (aP:decide (O.length=room)=ab):
  Calls prog 202 #[γ R,θ x.toArray] w λe w'=> ∃(H:List Value) (f:Nat) (q:List (List Value)) (J:Int) (cs:List (List Value)),e= .returned (.tuple #[θ H.toArray,ab,ι 0])/\(∃ci',qN 2 332 56 w' R A room f (q++[x]) ci' aj J ai (cs.set ((f+q.length)%room) x))/\jt (RgB R A) w w'/\Wt Γs first room O css Y ab H f q J cs:=Ψ5
end
def UD (w:World) (R A room first:Nat) (q:List (List Value)) (J I d H:Int) (css:List (List Value)) (h:qN 2 332 56 w R A room first q J I d H css) (ad:q.length<room) (x:List Value) (ac:x.length=2/\ ∀u∈x,u.oneCell'=ό):
  Calls prog 202 #[γ R,θ x.toArray] w λe w'=>e= .returned (.tuple #[Γs,μ ύ,ι 0])/\(∃ci',qN 2 332 56 w' R A room first (q++[x]) ci' I d H (css.set ((first+q.length)%room) x))/\jt (RgB R A) w w':=
 (OW w R A room first q J I d H css h x ac ύ (Ϩ τ)).mono λe w' ⟨_,_,_,_,_,aa,ab,a,M,N,O,U,Y⟩=>by
  subst M N O U Y;exact⟨aa,ab,a⟩
def UE (w:World) (R A room first:Nat) (c:List Value) (T:List (List Value)) (O J N H:Int) (css:List (List Value)) (h:qN 2 332 56 w R A room first (c::T) O J N H css) (ab:(c::T).length=room) (x:List Value) (ad:x.length=2/\ ∀u∈x,u.oneCell'=ό):
  Calls prog 202 #[γ R,θ x.toArray] w λe w'=>e= .returned (.tuple #[θ c.toArray,ό,ι 0])/\(∃I d,qN 2 332 56 w' R A room ((first+1)%room) (T++[x]) I J d H ((css.set first Γs).set (((first+1)%room+T.length)%room) x))/\jt (RgB R A) w w':=
 (OW w R A room first (c::T) O J N H css h x ad ό (Ϫ ab)).mono λe w' ⟨ae,f,q,d,cs,aa,⟨I,ac⟩,a,M,U,Y⟩=>by
  injection M with M h4
  subst M U Y h4;exact⟨aa,⟨I,d,ac⟩,a⟩
def Af (c:List Value) (h:c.length=2): ∃a0 a1,c=[a0,a1]:=by
 match c,h with
 | [a0,a1],_=>exact⟨a0,a1,rfl⟩
def YC {e n m:Nat} (h:w.ownsRow base e n v m xs) (a:jt S w w') (I: ∀b,base<=b-> ¬S b):w'.ownsRow base e n v m xs:=by
 obtain⟨d,H⟩:=h;refine⟨d, ?_⟩;rcases H with h | ⟨b,cap,cur,e1,hb,hg,rest⟩
 ·exact ϑ h
 ·exact ϕ ⟨b,cap,cur,e1,hb,a.blk hg (I b hb),rest⟩
def um {e n:Nat} (h:w.ownsRow base e size v n xs) (d:v.ownBlock=ϊ b):base<=b:=by
 rcases h.2 with ⟨rfl,_⟩ | ⟨g,cap,cur,rfl,H,_⟩
 ·cases d
 ·obtain rfl:g=b:=by injection d
  exact H
def VI {e n:Nat} (h:w.ownsRow base e size v n xs): ∃oa cap,v= δ oa n cap:=by
 rcases h.2 with ⟨rfl,d⟩ | ⟨g,cap,cur,rfl,_⟩
 ·exact⟨ϋ,0,by rw[d]⟩
 ·exact⟨_,cap,rfl⟩
def IM (w:World) (R A room first:Nat) (q:List (List Value)) (M N I J:Int) (css:List (List Value)) (h:qN 2 332 56 w R A room first q M N I J css):
  Calls prog 186 #[γ R] w λe w'=> ∃v,e= .returned v/\w'.ownsRow w.heap.size 56 2 v q.length q.flatten/\(∃first' cg' css',qN 2 332 56 w' R A room first' [] M N I cg' css')/\jt (RgB R A) w w':=by
 obtain⟨aH,aI,aJ,aK,aL⟩:=info_parts (P:=prog) (e:=56) (z:= Γs) (size:=2) (bytes:=32) ξ;have ar:=κ h;have aP:R<w.heap.size:=qn h.ring;have aO:A<w.heap.size:=qn h.row;have aV:w.cell? ⟨R,2,ϋ⟩=ϊ (ι q.length):=qm h.ring 2 rfl;have aT:(q.length:Int)<=8:=by have:=h.fits;have:=h.pos.2;omega
 have az:=κ h.qall;clear h
 go_enter func186,ntmps186
 go_wp2
 go_loopw [3,8] (λu af wr=> ∃(j f:Nat) (cs:List (List Value)),j<=q.length/\af= ι j/\(∃ao an aj,u= δ ao an aj)/\wr.ownsRow w.heap.size 56 2 u j (q.take j).flatten/\qN 2 332 56 wr R A room f (q.drop j) M N I J cs/\jt (RgB R A) w wr) (λ_ af _=>q.length-(intOf af).toNat)
 case atStart=>exact⟨0,first,css,τ,rfl,⟨_,_,_,rfl⟩,World.ownsRow_nil w _ _ _,ar.o,jt.refl _ _⟩
 case round=>
  obtain⟨j,f,cs,aR,rfl,⟨ao,an,aj,rfl⟩,d,am,al⟩:=hrel;have ag:=κ d;have H:=κ am;have aa:=κ al;clear d am al;by_cases hlt:j<q.length
  ·have ac:q.drop j=q[j]::q.drop (j+1):=F8 hlt;have ae:q.take (j+1)=q.take j++[q[j]]:=by rw[A9,ϖ hlt];rfl
   have Y:=az.o q[j] (ϡ hlt);have aS:(j:Int)<(q.length:Int):=by omega
   obtain⟨c,aB⟩: ∃c,Hid (c=q[j]):=⟨_,κ rfl⟩;rw[<-aB.o] at ac ae Y;have aw:=κ (ac▸H.o);have ax:=κ ae;have aQ:c.toArray.size=2:=by simpa using Y.1
   clear ac ae H;obtain⟨a0,U,rfl⟩:=Af c Y.1
   go_wp2_with (first | (go_at_call 232;(go_call DJ wr R A room f [a0,U] (q.drop (j+1)) M N I J cs aw.o as e w5 ⟨rfl,ak,a5⟩;have au:=κ ak;have ap:=κ a5;have O:=κ (YC ag.o a5 (λb ab e=>by rcases e with e | e<;>omega));have aA:Hid (w.heap.size<=w5.heap.size):=κ (Ϙ aa.o.size a5.size);clear ak a5)) | (at_builtin;refine wpList_append_own_at _ rfl (.tmp 10) (.tmp 13) 53 rfl w.heap.size 56 aH (Γs) 2 32 underlying53 aI aJ aK aL rfl ζ _ j (q.take j).flatten rfl (YC O.o (jt.of_more X8) (λb _ e=>e)) ⟨w5.heap.size,0,ϋ⟩ 1 1 [a0,U] rfl rfl (λi u aE=>by have:=xy (cs:=[a0,U]) (t:=56) (qj w5 (.cells #[a0,U] 56)) i u aE;rw[Addr.add_mid];exact this) Y.2 (by unfold maxLen;omega) τ (by have:=aA.o;simp;omega) ?_;intro aX w6 d ad aC aF;have ay:=κ d;have aq:Hid (jt (RgB R A) w w6):=κ (((aa.o.trans ap.o).alc _).grown ad (λb ab=>um O.o ab));have av:Hid (qN 2 332 56 w6 R A room ((f+1)%room) (q.drop (j+1)) M N I J (cs.set f Γs)):=κ ((au.o.more X8).away (jt.of_grown ad) (λe=>by have:=um O.o e;omega) (λe=>by have:=um O.o e;omega));obtain⟨aU,aM,rfl⟩:=VI d;clear d ad aC aF))
   go_roundw
   case rel=>exact⟨j+1,(f+1)%room,_,τ,by go_num,⟨_,_,_,rfl⟩,by rw[ax.o,M4];simpa using ay.o,av.o,aq.o⟩
   case measure=>simp[intOf];omega
  ·obtain rfl:j=q.length:=by omega
   have aW:wr.cell? ⟨R,7,ϋ⟩=ϊ (ι J):=qm H.o.ring 7 rfl;have aN:wr.frozen? ⟨R,7,ϋ⟩=ύ:=yw H.o.ring 7;go_wp2;go_ret;have aG:q.drop q.length=[]:=by simp
   have aD:q.take q.length=q:=by simp
   have ai:=H.o;have ah:=ag.o;rw[aG] at ai;rw[aD] at ah;exact⟨_,rfl,YC ah ((jt.refl (λb=>b=R) _).set rfl _) (λb ab e=>by omega),⟨_,_,_,ai.drained _⟩,aa.o.set (ϑ rfl) _⟩
def Fk (i:Int) (c:List Value) (d:c.length=1) (w:World):Calls prog 187 #[θ (ι i::c).toArray] w λe w'=>e= .returned (ι i)/\ql w w':=by
 obtain⟨a0,H,h⟩:=Af (ι i::c) (by simp[d]);obtain⟨rfl,rfl⟩:a0= ι i/\c=[H]:=by
  injection h with h1 h2
  exact⟨h1.symm,h2⟩
 clear h d
 go_enter func187,ntmps187
 go_wp2;go_ret;exact⟨rfl,ρ⟩
section
open _root_.Go.Proofs.Tryz renaming func185->Ξa,ntmps185->Ξb,underlying56->Ξf
open _root_.Go.Proofs.YtlmllmonabafjaaGreatDoor renaming Fk->Ξc,Ν2->Ξd,Ν56->Ξe,Γs->Ξg
def Nk (w:World) (v:Value) (q:List (List Value)) (base:Nat) (row:w.ownsRow base 56 2 v q.length q.flatten) (aa: ∀c∈q,∃i r,c= ι i::r/\r.length=1) (ai: ∀c∈q,∀u∈c,u.oneCell'=ό) (aN:q.length<=8):
  Calls prog 185 #[v,.func (.func 187) #[] #[]] w λe w'=>(∃v',e= .returned v'/\w'.ownsRow w.heap.size 3 1 v' (q.map idN).length ((q.map idN).map (Value.int .i64)))/\ql w w':=Ψ6
end
def LO (w:World):(zeroValue 255).run prog w= .ok (Γb) w:=by kernel_rfl
def zsC:(Builtin.zeroCells (Γb:Value).cells 1).toList=Γb:=by kernel_rfl
def zokC:(Γb:List Value).length=14/\ ∀u∈(Γb:List Value),u.oneCell'=ό:=⟨rfl,by simp[Value.oneCell']⟩
section
open _root_.Go.Proofs.Tryz renaming func239->Ξb,ntmps239->Ξc,underlying255->Ξg,underlying328->Ξi,results239->Ξm
open _root_.Go.Proofs.YtlmllmonabafjaaGreatDoor renaming Ν14->Ξa,Γb->Ξd,Ν255->Ξe,Ν330->Ξf,Ν328->Ξh,LO->Ξj,zsC->Ξk,zokC->Ξl
def F6 (w:World) (R A room first:Nat) (c:List Value) (T:List (List Value)) (ae af ac ad:Int) (css:List (List Value)) (h:qN 14 330 255 w R A room first (c::T) ae af ac ad css):
  Calls prog 239 #[γ R] w λe w'=>e= .returned (θ c.toArray)/\qN 14 330 255 w' R A room ((first+1)%room) T ae af ac ad (css.set first Γb)/\jt (RgB R A) w w':=Ψ2
end
def Nj {R A:Nat} {I J d H:Int} (h:qN 14 330 255 w R A room first q I J d H css):
  Calls prog 114 #[γ R] w λe w'=>e= .returned (ι q.length)/\w'=w:=by
 have M:w.cell? ⟨R,2,ϋ⟩=ϊ (ι q.length):=qm h.ring 2 rfl;clear h
 go_enter func114,ntmps114
 go_wp2;go_ret;exact⟨rfl,rfl⟩
section
open _root_.Go.Proofs.Tryz renaming func120->Ξa,ntmps120->Ξb
def Hf {R A:Nat} {I J d H:Int} (h:qN 14 330 255 w R A room first q I J d H css):
  Calls prog 120 #[γ R] w λe w'=>e= .returned (μ (decide (q.length=room)))/\ ∃k,w'=w.drewN k:=Ψ3
end
def mkC (n:Nat) (N:1<=n) (O:n<=8) (w:World):
  (Instr.makeSlice 328 (ι (n:Int)) (ι (n:Int))).run prog w= .ok (δ (ϊ ⟨w.heap.size,0,ϋ⟩) n n) (w.alloc (.cells (List.replicate n (Γb:List Value)).flatten.toArray 255)):=by
 obtain⟨M,hi,H,I,J⟩:=info_parts (P:=prog) (e:=255) (z:= Γb) (size:=14) (bytes:=128) ξ;have d:=run_make (P:=prog) w 328 255 M (Γb) underlying328 hi H .i64 .i64 n n τ τ (by rw[J];omega) τ;rw[d];simp only[Ψ,I];rw[Yq _ 14 n rfl ζ];rfl
def Pq (m:Int) (n:Nat) (J:m=n) (d:1<=n) (H:n<=8) (w:World):
  Calls prog 147 #[ι m] w λe w'=>e= .returned (.tuple #[γ (w.heap.size+1),ι 0])/\qN 14 330 255 w' (w.heap.size+1) w.heap.size n 0 [] 0 0 0 0 (List.replicate n (Γb:List Value))/\ql w w':=by
 subst J;have M:1<=(n:Int):=by omega
 go_enter func147,ntmps147
 have N:=mkC n d H;go_wp2;refine bodyPost_ret (v:= .tuple #[γ (w.heap.size+1),ι 0]) (by simp[results,results147,go_sem]) rfl ?_;refine⟨rfl, ?_,ρ⟩;exact⟨qC η,qs (qB (qj _ _) rfl) _,τ,η,λc I=>by rw[G2 I];exact zokC,⟨d,H⟩,τ,η,λi hi=>by simp at hi⟩
section
open _root_.Go.Proofs.Tryz renaming func200->Ξb,ntmps200->Ξc,results200->Ξg,underlying255->Ξh
open _root_.Go.Proofs.YtlmllmonabafjaaGreatDoor renaming Ν14->Ξa,F6->Ξd,Γb->Ξe,Ν255->Ξf
def Nc (w:World) (R A room first:Nat) (c:List Value) (T:List (List Value)) (J O H I:Int) (css:List (List Value)) (h:qN 14 330 255 w R A room first (c::T) J O H I css):
  Calls prog 200 #[γ R] w λe w'=>e= .returned (.tuple #[θ c.toArray,ό])/\(∃co',qN 14 330 255 w' R A room ((first+1)%room) T J co' H I (css.set first Γb))/\jt (RgB R A) w w':=Ψ4
end
def UH (w:World) (R A room first:Nat) (q:List (List Value)) (U ae ac ad:Int) (css:List (List Value)) (h:qN 14 330 255 w R A room first q U ae ac ad css) (aG:q.length<room) (x:List Value) (N:x.length=14/\ ∀u∈x,u.oneCell'=ό):
  Calls prog 199 #[γ R,θ x.toArray] w λe w'=>e= .returned (.tuple #[Γb,μ ύ,ι 0])/\(∃ci',qN 14 330 255 w' R A room first (q++[x]) ci' ae ac ad (css.set ((first+q.length)%room) x))/\jt (RgB R A) w w':=by
 have ao:=κ h;have aM:R<w.heap.size:=qn h.ring;have aL:A<w.heap.size:=qn h.row;have aU:(((w.alloc (.cells x.toArray 255)).alloc (.cells Γb 255)).alloc (.cells Γb 255)).cell? ⟨R,3,ϋ⟩=ϊ (μ ύ):=qm (qs (qs (qs h.ring _) _) _) 3 rfl;have aF:decide (q.length=room)=ύ:=by simp;omega
 clear h
 go_enter func199,ntmps199
 go_wp2_with (first | (go_at_call 120;((with_reducible refine(Hf (ao.o.more (((ql.refl w).al _).al _ |>.al _))).mono ?_);rintro e ab ⟨rfl,aS,Y⟩;rw[aF];have ag:Hid (ql w ab):=κ (by rw[Y];exact(((ql.refl w).al _).al _ |>.al _).dr _);have ar:Hid (ab.heap[w.heap.size]? =ϊ (.cells x.toArray 255 (0,0))):=κ (by rw[Y];exact qr (qs (qs (qj _ _) _) _) _);have ai:Hid (ab.heap[w.heap.size+1]? =ϊ (.cells Γb 255 (0,0))):=κ (by rw[Y];exact qr (qs (qC η) _) _);have am:Hid (ab.heap[w.heap.size+2]? =ϊ (.cells Γb 255 (0,0))):=κ (by rw[Y];exact qr (qC η) _);clear Y)))
 obtain⟨H,J⟩: ∃H,H=ab:=⟨_,rfl⟩;have d:Hid (qN 14 330 255 H R A room first q U ae ac ad css):=κ (by rw[J];exact ao.o.more ag.o);have ah:Hid (jt (RgB R A) w H):=κ (by rw[J];exact jt.of_more ag.o);have au:Hid (H.heap[w.heap.size]? =ϊ (.cells x.toArray 255 (0,0))):=κ (by rw[J];exact ar.o);have aj:Hid (H.heap[w.heap.size+1]? =ϊ (.cells Γb 255 (0,0))):=κ (by rw[J];exact ai.o);have an:Hid (H.heap[w.heap.size+2]? =ϊ (.cells Γb 255 (0,0))):=κ (by rw[J];exact am.o);have aH:q.length<room:=aG;rw[<-J];clear J ag ar ai am;obtain⟨f,aq⟩: ∃f,Hid (f=first):=⟨_,κ rfl⟩;obtain⟨cs,ap⟩: ∃cs,Hid (cs=css):=⟨_,κ rfl⟩;rw[<-aq.o,<-ap.o] at d;have az: ∀x:qt H,x.w'.cell? ⟨R,0,ϋ⟩=ϊ (δ (ϊ ⟨A,0,ϋ⟩) room room):=λx=>x.cell (qn d.o.ring) (qm d.o.ring 0 rfl)
 have aA: ∀x:qt H,x.w'.cell? ⟨R,1,ϋ⟩=ϊ (ι f):=λx=>x.cell (qn d.o.ring) (qm d.o.ring 1 rfl)
 have aB: ∀x:qt H,x.w'.cell? ⟨R,2,ϋ⟩=ϊ (ι q.length):=λx=>x.cell (qn d.o.ring) (qm d.o.ring 2 rfl)
 have aP:((f:Int)+(q.length:Int))%(room:Int)=(((f+q.length)%room:Nat):Int):=by rw[I5];rfl
 have aE:(f+q.length)%room<room:=J3 _ τ;have hi:(((f+q.length)%room:Nat):Int)<(room:Int):=by omega
 have aQ:=d.o.pos;have aN:=d.o.fst;have aO:(f:Int)<=8:=by omega
 have aR:(q.length:Int)<=8:=by omega
 generalize aD:(f+q.length)%room=I at *;refine Qn H 21 22 [21] ?_
 refine Ny ?_
 refine jh rfl rfl (qk ρ) 255 (.tmp 3) rfl w.heap.size 0 rfl x _ (λw' aI=>by obtain⟨y,rfl⟩:=aI;exact xy (qq y.h au.o)) underlying255 rfl (by rw[N.1];kernel_rfl) ?_;intro K aa;go_simp;refine aa _ ?_;clear aa K
 refine Qq1 ?_
 refine zY rfl rfl ζ ?_;intro K aa;refine zF 255 (.tmp 48) (.tmp 47) rfl A (I* 14) 255 cs.flatten.toArray x rfl rfl (qr d.o.row 1) (by rw[d.o.size,N.1];have:=A8 14 (show I+1<=room by omega);omega) (by rw[N.1];kernel_rfl) N.2 ?_;refine⟨trivial, ?_⟩;go_simp;refine aa _ _ ?_;clear aa K az aA aB;refine qA ?_;obtain⟨W6,M⟩:=ν ((H.drewN 1).setRow A (xQ cs.flatten (I* 14) x).toArray);have ax:Hid (jt (RgB R A) w W6):=κ (by rw[<-M];exact(ah.o.drewN 1).row (ϕ rfl) _);have O:Hid (W6.heap[R]? =ϊ (.cells (jV A room f q.length U ae ac ad) 330 (0,0))):=κ (by rw[<-M];exact qS (qr d.o.ring 1) _ d.o.ne);have aC:Hid (W6.heap[A]? =ϊ (.cells (cs.set I x).flatten.toArray 255 (0,0))):=κ (by rw[<-M,<-JO cs I _ d.o.cl N.1 (by rw[d.o.len];exact aE)];exact jY (qr d.o.row 1) _);have ak:Hid (W6.heap[w.heap.size+1]? =ϊ (.cells Γb 255 (0,0))):=κ (by rw[<-M];exact qS (qr aj.o 1) _ τ);have ay:Hid (W6.heap[w.heap.size+2]? =ϊ (.cells Γb 255 (0,0))):=κ (by rw[<-M];exact qS (qr an.o 1) _ τ);rw[M];clear M ah au aj an;have av:w.heap.size+2≠R:=by omega
 have af:w.heap.size+1≠R:=by omega
 have aT:W6.cell? ⟨R,2,ϋ⟩=ϊ (ι q.length):=qm O.o 2 rfl;have aJ:W6.frozen? ⟨R,2,ϋ⟩=ύ:=yw O.o 2;have aV:W6.cell? ⟨R,4,ϋ⟩=ϊ (ι U):=qm O.o 4 rfl;have aK:W6.frozen? ⟨R,4,ϋ⟩=ύ:=yw O.o 4
 go_wp2_with (first | (refine yL (.load 255 (.tmp 7)) rfl ?_;refine vO rfl 255 (.tmp 7) rfl (w.heap.size+2) 255 Γb _ (qo (qo ay.o ⟨R,2,ϋ⟩ _ av) ⟨R,4,ϋ⟩ _ av) rfl underlying255 rfl ξ ?_) | (refine yL (.store 255 (.tmp 4) (.tmp 65)) rfl ?_;refine xW rfl 255 (.tmp 4) (.tmp 65) rfl (w.heap.size+1) 255 _ Γb (qo (qo ak.o ⟨R,2,ϋ⟩ _ af) ⟨R,4,ϋ⟩ _ af) rfl rfl ξ rfl (all_oneCell_toArray zokC.2) ?_))
 have aw:R≠A:=d.o.ne;refine bodyPost_ret (v:= .tuple #[Γb,μ ύ,ι 0]) (KW results199 _ _ (w.heap.size+1) 255 Γb _ _ _ rfl rfl rfl (jY (qo (qo ak.o ⟨R,2,ϋ⟩ _ af) ⟨R,4,ϋ⟩ _ af) _) underlying255 rfl ξ) rfl ?_;subst aD;obtain rfl:=aq.o;obtain rfl:=ap.o;refine⟨rfl,⟨wrap64 (U+1),d.o.put aH N ?_ ?_⟩,((ax.o.set (ϑ rfl) _).set (ϑ rfl) _).rowNew τ _⟩
 ·exact qS (qB (qp (qp O.o 2 _) 4 _) rfl) _ τ
 ·exact qS (qo (qo aC.o _ _ (C4 aw)) _ _ (C4 aw)) _ τ
def Ah (c:List Value) (h:c.length=14): ∃a0 a1 a2 a3 a4 a5 a6 a7 a8 a9 a10 a11 a12 a13,c=[a0,a1,a2,a3,a4,a5,a6,a7,a8,a9,a10,a11,a12,a13]:=by
 match c,h with
 | [a0,a1,a2,a3,a4,a5,a6,a7,a8,a9,a10,a11,a12,a13],_=>exact⟨a0,a1,a2,a3,a4,a5,a6,a7,a8,a9,a10,a11,a12,a13,rfl⟩
def YD {e n m:Nat} (h:w.ownsRow base e n v m xs) (a:jt S w w') (I: ∀b,base<=b-> ¬S b):w'.ownsRow base e n v m xs:=by
 obtain⟨d,H⟩:=h;refine⟨d, ?_⟩;rcases H with h | ⟨b,cap,cur,e1,hb,hg,rest⟩
 ·exact ϑ h
 ·exact ϕ ⟨b,cap,cur,e1,hb,a.blk hg (I b hb),rest⟩
def DP {e n:Nat} (h:w.ownsRow base e size v n xs) (d:v.ownBlock=ϊ b):base<=b:=by
 rcases h.2 with ⟨rfl,_⟩ | ⟨g,cap,cur,rfl,H,_⟩
 ·cases d
 ·obtain rfl:g=b:=by injection d
  exact H
def BU {e n:Nat} (h:w.ownsRow base e size v n xs): ∃oa cap,v= δ oa n cap:=by
 rcases h.2 with ⟨rfl,d⟩ | ⟨g,cap,cur,rfl,_⟩
 ·exact⟨ϋ,0,by rw[d]⟩
 ·exact⟨_,cap,rfl⟩
def IO (w:World) (R A room first:Nat) (q:List (List Value)) (M N I J:Int) (css:List (List Value)) (h:qN 14 330 255 w R A room first q M N I J css):
  Calls prog 183 #[γ R] w λe w'=> ∃v,e= .returned v/\w'.ownsRow w.heap.size 255 14 v q.length q.flatten/\(∃first' cg' css',qN 14 330 255 w' R A room first' [] M N I cg' css')/\jt (RgB R A) w w':=by
 obtain⟨aP,aQ,aR,aS,aT⟩:=info_parts (P:=prog) (e:=255) (z:= Γb) (size:=14) (bytes:=128) ξ;have aB:=κ h;have aX:R<w.heap.size:=qn h.ring;have aW:A<w.heap.size:=qn h.row;have bd:w.cell? ⟨R,2,ϋ⟩=ϊ (ι q.length):=qm h.ring 2 rfl;have bb:(q.length:Int)<=8:=by have:=h.fits;have:=h.pos.2;omega
 have aH:=κ h.qall;clear h
 go_enter func183,ntmps183
 go_wp2
 go_loopw [3,8] (λu an wr=> ∃(j f:Nat) (cs:List (List Value)),j<=q.length/\an= ι j/\(∃ay ax ar,u= δ ay ax ar)/\wr.ownsRow w.heap.size 255 14 u j (q.take j).flatten/\qN 14 330 255 wr R A room f (q.drop j) M N I J cs/\jt (RgB R A) w wr) (λ_ an _=>q.length-(intOf an).toNat)
 case atStart=>exact⟨0,first,css,τ,rfl,⟨_,_,_,rfl⟩,World.ownsRow_nil w _ _ _,aB.o,jt.refl _ _⟩
 case round=>
  obtain⟨j,f,cs,aZ,rfl,⟨ay,ax,ar,rfl⟩,d,aw,av⟩:=hrel;have ao:=κ d;have H:=κ aw;have ai:=κ av;clear d aw av;by_cases hlt:j<q.length
  ·have ak:q.drop j=q[j]::q.drop (j+1):=F8 hlt;have am:q.take (j+1)=q.take j++[q[j]]:=by rw[A9,ϖ hlt];rfl
   have ah:=aH.o q[j] (ϡ hlt);have ba:(j:Int)<(q.length:Int):=by omega
   obtain⟨c,aJ⟩: ∃c,Hid (c=q[j]):=⟨_,κ rfl⟩;rw[<-aJ.o] at ak am ah;have aE:=κ (ak▸H.o);have aF:=κ am;have aY:c.toArray.size=14:=by simpa using ah.1
   clear ak am H;obtain⟨a0,U,ad,a3,a4,a5,ae,af,ag,a9,Y,aa,ab,ac,rfl⟩:=Ah c ah.1
   go_wp2_with (first | (go_at_call 239;(go_call F6 wr R A room f [a0,U,ad,a3,a4,a5,ae,af,ag,a9,Y,aa,ab,ac] (q.drop (j+1)) M N I J cs aE.o as e w5 ⟨rfl,au,a5⟩;have aC:=κ au;have az:=κ a5;have O:=κ (YD ao.o a5 (λb aj e=>by rcases e with e | e<;>omega));have aI:Hid (w.heap.size<=w5.heap.size):=κ (Ϙ ai.o.size a5.size);clear au a5)) | (at_builtin;refine wpList_append_own_at _ rfl (.tmp 10) (.tmp 13) 328 rfl w.heap.size 255 aP (Γb) 14 128 underlying328 aQ aR aS aT rfl ζ _ j (q.take j).flatten rfl (YD O.o (jt.of_more X8) (λb _ e=>e)) ⟨w5.heap.size,0,ϋ⟩ 1 1 [a0,U,ad,a3,a4,a5,ae,af,ag,a9,Y,aa,ab,ac] rfl rfl (λi u aM=>by have:=xy (cs:=[a0,U,ad,a3,a4,a5,ae,af,ag,a9,Y,aa,ab,ac]) (t:=255) (qj w5 (.cells #[a0,U,ad,a3,a4,a5,ae,af,ag,a9,Y,aa,ab,ac] 255)) i u aM;rw[Addr.add_mid];exact this) ah.2 (by unfold maxLen;omega) τ (by have:=aI.o;simp;omega) ?_;intro bf w6 d al aK aN;have aG:=κ d;have aA:Hid (jt (RgB R A) w w6):=κ (((ai.o.trans az.o).alc _).grown al (λb aj=>DP O.o aj));have aD:Hid (qN 14 330 255 w6 R A room ((f+1)%room) (q.drop (j+1)) M N I J (cs.set f Γb)):=κ ((aC.o.more X8).away (jt.of_grown al) (λe=>by have:=DP O.o e;omega) (λe=>by have:=DP O.o e;omega));obtain⟨bc,aU,rfl⟩:=BU d;clear d al aK aN))
   go_roundw
   case rel=>exact⟨j+1,(f+1)%room,_,τ,by go_num,⟨_,_,_,rfl⟩,by rw[aF.o,M4];simpa using aG.o,aD.o,aA.o⟩
   case measure=>simp[intOf];omega
  ·obtain rfl:j=q.length:=by omega
   have be:wr.cell? ⟨R,7,ϋ⟩=ϊ (ι J):=qm H.o.ring 7 rfl;have aV:wr.frozen? ⟨R,7,ϋ⟩=ύ:=yw H.o.ring 7;go_wp2;go_ret;have aO:q.drop q.length=[]:=by simp
   have aL:q.take q.length=q:=by simp
   have aq:=H.o;have ap:=ao.o;rw[aO] at aq;rw[aL] at ap;exact⟨_,rfl,YD ap ((jt.refl (λb=>b=R) _).set rfl _) (λb aj e=>by omega),⟨_,_,_,aq.drained _⟩,ai.o.set (ϑ rfl) _⟩
def Fm (i:Int) (c:List Value) (d:c.length=13) (w:World):Calls prog 184 #[θ (ι i::c).toArray] w λe w'=>e= .returned (ι i)/\ql w w':=by
 obtain⟨a0,H,O,a3,a4,a5,U,Y,aa,a9,I,J,M,N,h⟩:=Ah (ι i::c) (by simp[d]);obtain⟨rfl,rfl⟩:a0= ι i/\c=[H,O,a3,a4,a5,U,Y,aa,a9,I,J,M,N]:=by
  injection h with h1 h2
  exact⟨h1.symm,h2⟩
 clear h d
 go_enter func184,ntmps184
 go_wp2;go_ret;exact⟨rfl,ρ⟩
section
open _root_.Go.Proofs.Tryz renaming func182->Ξa,ntmps182->Ξb,underlying255->Ξf
open _root_.Go.Proofs.YtlmllmonabafjaaGreatDoor renaming Fm->Ξc,Ν14->Ξd,Ν255->Ξe,Γb->Ξg
def Nm (w:World) (v:Value) (q:List (List Value)) (base:Nat) (row:w.ownsRow base 255 14 v q.length q.flatten) (aa: ∀c∈q,∃i r,c= ι i::r/\r.length=13) (ai: ∀c∈q,∀u∈c,u.oneCell'=ό) (aN:q.length<=8):
  Calls prog 182 #[v,.func (.func 184) #[] #[]] w λe w'=>(∃v',e= .returned v'/\w'.ownsRow w.heap.size 3 1 v' (q.map idN).length ((q.map idN).map (Value.int .i64)))/\ql w w':=Ψ6
end
structure LnB where
 L:Nat
 R1:Nat
 A1:Nat
 R2:Nat
 A2:Nat
 R3:Nat
 A3:Nat
variable {k:LnB}
def LnB.muts (k:LnB) (b:Nat):Prop:=b=k.L∨RgB k.R1 k.A1 b∨RgB k.R2 k.A2 b∨RgB k.R3 k.A3 b
def jQ (k:LnB) (vo:Value) (s:LnS):Array Value:=
 #[vo,.pointer (ϊ ⟨k.R1,0,ϋ⟩),.pointer (ϊ ⟨k.R2,0,ϋ⟩),.pointer (ϊ ⟨k.R3,0,ϋ⟩),.bool s.wanted,.int .i64 s.cur,.int .i64 s.tgt,
  .int .u32 s.rw.src,.int .u16 s.rw.sq,.int .u32 s.rw.st,.bool s.rw.any,.int .u32 s.rw.last,.int .u32 s.rw.shift,.int .i64 s.most,.int .i64 s.row,.bool s.gone]
def lnD (N:Nat->Prop) (k:LnB) (b:Nat):Prop:=N b->k.muts b
def lnE (N:Nat->Prop) (k:LnB) (vo:Value) (b:Nat):Prop:=lnD N k b∨vo.ownBlock=ϊ b
def lnM (k:LnB) (vo:Value) (b:Nat):Prop:=k.muts b∨vo.ownBlock=ϊ b
def xf (N:Nat->Prop) (w w':World) (b:Nat):Prop:=N b∨(w.heap.size<=b/\b<w'.heap.size)
structure KM (s:LnS):Prop where
 most:1<=s.most/\s.most<=10
 row:0<=s.row/\s.row<=s.most
 lt:s.gone=ύ->s.row<s.most
 sq:U16 s.rw.sq
 src:U32 s.rw.src
structure LnX (N:Nat->Prop) (w:World) (k:LnB) (vo:Value) (s:LnS):Prop where
 own: ∀b,N b->b<w.heap.size
 muts: ∀b,k.muts b->N b
 dist:(k.L≠k.R1/\k.L≠k.A1/\k.L≠k.R2/\k.L≠k.A2/\k.L≠k.R3/\k.L≠k.A3)/\(k.R1≠k.A1/\k.R1≠k.R2/\k.R1≠k.A2/\k.R1≠k.R3/\k.R1≠k.A3)/\(k.A1≠k.R2/\k.A1≠k.A2/\k.A1≠k.R3/\k.A1≠k.A3)/\(k.R2≠k.A2/\k.R2≠k.R3/\k.R2≠k.A3)/\(k.A2≠k.R3/\k.A2≠k.A3)/\k.R3≠k.A3
 blk:w.heap[k.L]? =ϊ (.cells (jQ k vo s) 153 (0,0))
 r1:RgR 13 327 253 RIt (lnE N k vo) w k.R1 k.A1 s.room s.A
 r2:RgR 14 330 255 RCh (lnE N k vo) w k.R2 k.A2 s.room s.B
 r3:RgR 2 332 56 ROu (lnE N k vo) w k.R3 k.A3 s.room s.C
 o:je 2 ROu (lnD N k) w 0 56 vo s.W
 ok:KM s
def zw (N:Nat->Prop) (w:World) (L:Nat) (s:LnS):Prop:= ∃k vo,k.L=L/\LnX N w k vo s
section
variable {N:Nat->Prop} {w w':World} {k:LnB} {vo vo':Value} {s s':LnS}
def LnX.vob (h:LnX N w k vo s) (d:vo.ownBlock=ϊ b):N b/\ ¬k.muts b:=by
 have:=h.o.apart b d;unfold lnD at this;exact Classical.not_imp.1 this
def LnX.inN (h:LnX N w k vo s) (d:lnM k vo b):N b:=by
 rcases d with e | e
 ·exact h.muts b e
 ·exact(h.vob e).1
def Mc (d:lnM k vo b):lnE N k vo b:=by
 rcases d with e | e
 ·exact ϑ λ_=>e
 ·exact ϕ e
def kZ (d:k.muts b):lnE N k vo b:=ϑ λ_=>d
def LnX.away (h:LnX N w k vo s) (a:jt S w w') (O: ∀b,S b-> ¬N b):LnX N w' k vo s:=by
 have H: ∀b,k.muts b-> ¬S b:=λb d I=>O b I (h.muts b d)
 have J: ∀b,S b->lnE N k vo b:=λb I=>ϑ λM=>ϩ M (O b I)
 refine⟨λb d=>ϗ (h.own b d) a.size,h.muts,h.dist,a.blk h.blk (H _ (ϑ rfl)), ?_, ?_, ?_, ?_,h.ok⟩
 ·exact h.r1.step a (H _ (ϕ (ϑ (ϑ rfl)))) (H _ (ϕ (ϑ (ϕ rfl)))) J (λb d=>ϑ d)
 ·exact h.r2.step a (H _ (ϕ (ϕ (ϑ (ϑ rfl))))) (H _ (ϕ (ϕ (ϑ (ϕ rfl))))) J (λb d=>ϑ d)
 ·exact h.r3.step a (H _ (ϕ (ϕ (ϕ (ϑ rfl))))) (H _ (ϕ (ϕ (ϕ (ϕ rfl))))) J (λb d=>ϑ d)
 ·exact h.o.step (a.mono λb I M=>ϩ M (O b I))
def LnX.on (h:LnX N w k vo s) (m:ql w w'):LnX N w' k vo s:=h.away (S:=λ_=>False) (jt.of_more m) (λ_ e=>e.elim)
def zw.away {L:Nat} (h:zw N w L s) (a:jt S w w') (d: ∀b,S b-> ¬N b):zw N w' L s:=by
 obtain⟨k,vo,e,x⟩:=h;exact⟨k,vo,e,x.away a d⟩
def zw.on {L:Nat} (h:zw N w L s) (m:ql w w'):zw N w' L s:=by
 obtain⟨k,vo,e,x⟩:=h;exact⟨k,vo,e,x.on m⟩
def xE (h: ∀b,N b->b<w.heap.size) (I: ∀b,vo'.ownBlock=ϊ b->vo.ownBlock=ϊ b∨w.heap.size<=b) (H:lnE (xf N w w') k vo' b):lnE N k vo b:=by
 rcases H with e | e
 ·exact ϑ λd=>e (ϑ d)
 ·rcases I b e with e1 | e1
  ·exact ϕ e1
  ·exact ϑ λd=>by have:=h b d;omega
def EP (H:lnD (xf N w w') k b):lnD N k b:=λd=>H (ϑ d)
def LnX.held {α:Type} {R:qL α} {c:List Value} {y:α} (h:LnX N w k vo s) (H:jw R (lnE N k vo) w c y) (a:jt (lnM k vo) w w') (I: ∀b,vo'.ownBlock=ϊ b->vo.ownBlock=ϊ b∨w.heap.size<=b):jw R (lnE (xf N w w') k vo') w' c y:=
 (H.step (a.mono λ_=>Mc)).other λ_ d=>ϑ (xE h.own I d)
def LnX.rows (h:LnX N w k vo s) (a:jt k.muts w w'):je 2 ROu (lnD (xf N w w') k) w' 0 56 vo s.W:=by
 have I:=h.o.step (a.mono λb d _=>d);obtain⟨⟨xs,o,r⟩,H⟩:=I;refine⟨⟨xs,o,λi hi=>(r i hi).other λb d=>ϑ (xE h.own (λ_ e=>ϑ e) d)⟩,λb d J=>H b d (EP J)⟩
def LnX.make (h:LnX N w k vo s) (Y:w.heap.size<=w'.heap.size)
  (H:w'.heap[k.L]? =ϊ (.cells (jQ k vo' s') 153 (0,0)))
  (M:RgR 13 327 253 RIt (lnE (xf N w w') k vo') w' k.R1 k.A1 s'.room s'.A)
  (O:RgR 14 330 255 RCh (lnE (xf N w w') k vo') w' k.R2 k.A2 s'.room s'.B)
  (U:RgR 2 332 56 ROu (lnE (xf N w w') k vo') w' k.R3 k.A3 s'.room s'.C)
  (J:je 2 ROu (lnD (xf N w w') k) w' 0 56 vo' s'.W) (I:KM s'):LnX (xf N w w') w' k vo' s':=
 ⟨λb d=>by
  rcases d with e | e
  ·exact ϗ (h.own b e) Y
  ·exact e.2,λb d=>ϑ (h.muts b d),h.dist,H,M,O,U,J,I⟩
def LnX.grow (h:LnX N w k vo s) (m:ql w w'):LnX (xf N w w') w' k vo s:=by
 have I:=h.on m;have a:jt (λ_=>False) w w':=jt.of_more m;have d: ∀b,lnE (xf N w w') k vo b->lnE N k vo b∨w'.heap.size<=b:=λb H=>ϑ (xE h.own (λ_ e=>ϑ e) H)
 exact h.make m.size I.blk (h.r1.step a (λe=>e) (λe=>e) (λ_ e=>e.elim) d) (h.r2.step a (λe=>e) (λe=>e) (λ_ e=>e.elim) d) (h.r3.step a (λe=>e) (λe=>e) (λ_ e=>e.elim) d) (h.rows (jt.of_more m)) h.ok
end
def Iz {P:Program} {I:Func} {p:Tmp} {d:TypeId} (h:I.results= #[.cell p d]) (tmps:Array Value) (w:World) (g:Nat) (t:TypeId) (cs:Array Value) (H:TypeDesc)
  (N:tmps.getD p undef= γ g) (M:w.heap[g]? =ϊ (.cells cs t (0,0)))
  (U:P.underlying d=ϊ H) (J:(match H with | .struct _ | .array _ _=>ό | _=>ύ)=ό) (hi:(P.info? d).map (·.size)=ϊ cs.size):
  (results I tmps).run P w= .ok (θ cs) w:=by
 have O:tmps[p]?.getD undef= γ g:=by simpa using N
 simp[results,h,O,asAddr,run_loadVar_row w g t d cs (0,0) H M U J hi]
def gF (h:LnX N w k vo s):Calls prog 69 #[γ k.L] w λe w'=>e= .returned (μ s.gone)/\ql w w':=by
 have d:w.cell? ⟨k.L,15,ϋ⟩=ϊ (μ s.gone):=qm h.blk 15 rfl;clear h
 go_enter func69,ntmps69
 go_wp2;go_ret;exact⟨rfl,ρ⟩
def WV (h:LnX N w k vo s) (m:ql w w'):Calls prog 113 #[γ k.R1] w' λe w''=>e= .returned (ι s.A.length)/\w''=w':=by
 obtain⟨f,q,M,O,I,J,css,d,H⟩:=(h.on m).r1;rw[<-H.len];exact Ni d
def WU (h:LnX N w k vo s) (m:ql w w'):Calls prog 114 #[γ k.R2] w' λe w''=>e= .returned (ι s.B.length)/\w''=w':=by
 obtain⟨f,q,M,O,I,J,css,d,H⟩:=(h.on m).r2;rw[<-H.len];exact Nj d
def WT (h:LnX N w k vo s) (m:ql w w'):Calls prog 115 #[γ k.R3] w' λe w''=>e= .returned (ι s.C.length)/\w''=w':=by
 obtain⟨f,q,M,O,I,J,css,d,H⟩:=(h.on m).r3;rw[<-H.len];exact Nh d
def Cj (h:LnX N w k vo s) (m:ql w w'):Calls prog 120 #[γ k.R2] w' λe w''=>e= .returned (μ (decide (s.B.length=s.room)))/\ql w' w'':=by
 obtain⟨f,q,M,O,I,J,css,d,H⟩:=(h.on m).r2;rw[<-H.len];refine(Hf d).mono ?_;rintro e w'' ⟨rfl,n,rfl⟩;exact⟨rfl,(ql.refl _).dr n⟩
def YA (h:LnX N w k vo s):Calls prog 74 #[γ k.L,ι 1] w λe w'=>e= .returned (μ (vC s 1))/\ql w w':=by
 have c1:w.cell? ⟨k.L,1,ϋ⟩=ϊ (π (ϊ ⟨k.R1,0,ϋ⟩)):=qm h.blk 1 rfl;have c2:w.cell? ⟨k.L,2,ϋ⟩=ϊ (π (ϊ ⟨k.R2,0,ϋ⟩)):=qm h.blk 2 rfl;have U:vC s 1=(decide (0<s.A.length)&&decide (¬s.B.length=s.room)):=rfl;have M:=κ (WV h (ql.refl w));have d:=κ (Cj h (ql.refl w));rw[U];clear h U;obtain⟨b,H⟩:=ν (decide (s.B.length=s.room));rw[H] at d;have O:decide (¬s.B.length=s.room)= !b:=by rw[<-H];simp
 rw[O];clear H O;by_cases hl:0<s.A.length
 ·have Y:(0:Int)<(s.A.length:Int):=by omega
  have I:decide (0<s.A.length)=ό:=by simp;omega
  rw[I]
  go_enter func74,ntmps74
  go_wp2_with (first | (go_at_call 113;(go_call M.o as e w1 ⟨rfl,rfl⟩)) | (go_at_call 120;(go_call d.o as e w2 ⟨rfl,J⟩)))
  all_goals (go_ret;first | exact⟨η,J⟩ | exact⟨η,ql.refl _⟩)
 ·have Y: ¬(0:Int)<(s.A.length:Int):=by omega
  have I:decide (0<s.A.length)=ύ:=Ϩ hl;rw[I]
  go_enter func74,ntmps74
  go_wp2_with (first | (go_at_call 113;(go_call M.o as e w1 ⟨rfl,rfl⟩)) | (go_at_call 120;(go_call d.o as e w2 ⟨rfl,J⟩)))
  all_goals (go_ret;first | exact⟨η,J⟩ | exact⟨η,ql.refl _⟩)
def Yz (h:LnX N w k vo s):Calls prog 74 #[γ k.L,ι 2] w λe w'=>e= .returned (μ (vC s 2))/\ql w w':=by
 have c2:w.cell? ⟨k.L,2,ϋ⟩=ϊ (π (ϊ ⟨k.R2,0,ϋ⟩)):=qm h.blk 2 rfl;have d:vC s 2=decide (0<s.B.length):=rfl;have H:=κ (WU h (ql.refl w));rw[d];clear h d
 go_enter func74,ntmps74
 go_wp2_with (go_at_call 114;(go_call H.o as e w1 ⟨rfl,rfl⟩))
 go_ret;exact⟨η,ql.refl _⟩
def Jy (h:LnX N w k vo s):Calls prog 74 #[γ k.L,ι 3] w λe w'=>e= .returned (μ (vC s 3))/\ql w w':=by
 have c3:w.cell? ⟨k.L,3,ϋ⟩=ϊ (π (ϊ ⟨k.R3,0,ϋ⟩)):=qm h.blk 3 rfl;have d:vC s 3=decide (0<s.C.length):=rfl;have H:=κ (WT h (ql.refl w));rw[d];clear h d
 go_enter func74,ntmps74
 go_wp2_with (go_at_call 115;(go_call H.o as e w1 ⟨rfl,rfl⟩))
 go_ret;exact⟨η,ql.refl _⟩
def ER (h:LnX N w k vo s):Calls prog 68 #[γ k.L] w λe w'=>e= .returned (θ #[ι s.A.length,ι s.B.length,ι s.C.length])/\ql w w':=by
 have I:=κ h;clear h
 go_enter func68,ntmps68
 go_wp2;obtain⟨W1,M⟩:=ν (w.alloc (.cells #[ι 0,ι 0,ι 0] 104));have H:Hid (ql w W1):=κ (by rw[<-M];exact ql.alloc _ _);have O:Hid (W1.heap[w.heap.size]? =ϊ (.cells #[ι 0,ι 0,ι 0] 104 (0,0))):=κ (by rw[<-M];exact qj w _);rw[M];clear M;have J:=λ(x:qt W1)=>qq (H.o.trans x.h) I.o.blk
 have c1:=λx=>β1 (J x);have c2:=λx=>β2 (J x);have c3:=λx=>β3 (J x);clear J
 refine zC W1 16 [(0,ύ),(1,ύ),(2,ύ),(3,ύ),(5,ύ),(6,ύ),(7,ύ),(8,ύ),(10,ύ),(11,ύ),(12,ύ),(13,ύ),(4,ό),(9,ό),(14,ό),(15,ύ),(16,ό)] ξ ξ ?_
 refine Qs ?_
 (refine Ql ?_;intro K d)
 go_call WV I.o (H.o.dr 1) as e w2 ⟨rfl,rfl⟩;refine⟨_,rfl,qk ρ,d _ _ ?_⟩;clear d K
 (refine Ql ?_;intro K d)
 go_call WU I.o (H.o.dr 1) as e w2 ⟨rfl,rfl⟩;refine⟨_,rfl,qk ρ,d _ _ ?_⟩;clear d K
 (refine Ql ?_;intro K d)
 go_call WT I.o (H.o.dr 1) as e w2 ⟨rfl,rfl⟩;refine⟨_,rfl,qk ρ,d _ _ ?_⟩;clear d K
 refine Qq1 ?_
 refine zY rfl rfl ζ ?_;intro K d;refine jr 104 (.tmp 2) (.tmp 18) rfl w.heap.size 104 _ #[ι s.A.length,ι s.B.length,ι s.C.length] rfl rfl (qr O.o 1) ξ rfl (all_oneCell_toArray X9) ?_;refine⟨trivial, ?_⟩;go_simp;refine d _ _ ?_;clear d K;refine qA ?_;go_wp2;refine bodyPost_ret (v:= θ #[ι s.A.length,ι s.B.length,ι s.C.length]) (Iz results68 _ _ w.heap.size 104 #[ι s.A.length,ι s.B.length,ι s.C.length] _ rfl (jY (qr O.o 1) _) underlying104 rfl ξ) rfl ?_;exact⟨rfl,(EC _ _ _).to_more (H.o.dr 1) (λk e=>by rw[e];exact ϔ _)⟩
def AJ (h:LnX N w k vo s):Calls prog 67 #[γ k.L] w λe w'=>e= .returned (.tuple #[θ #[ι s.cur,ι s.tgt],s.wanted])/\ql w w':=by
 have O:=κ h;have ab:k.L<w.heap.size:=qn h.blk;clear h
 go_enter func67,ntmps67
 go_wp2;obtain⟨W1,I⟩:=ν (w.alloc (.cells #[ι 0,ι 0] 103));have J:Hid (ql w W1):=κ (by rw[<-I];exact ql.alloc _ _);have M:Hid (W1.heap[w.heap.size]? =ϊ (.cells #[ι 0,ι 0] 103 (0,0))):=κ (by rw[<-I];exact qj w _);rw[I];clear I;have c4:=λ(x:qz (λb=>b=w.heap.size) W1)=>β4 (x.h.blk (qq J.o O.o.blk) τ)
 have Y: ∀x:qz (λb=>b=w.heap.size) W1,x.w'.rangeAt k.L 5 [ι s.cur,ι s.tgt]:=λx j v H=>by
  have U:=x.h.blk (qq J.o O.o.blk) (show ¬k.L=w.heap.size by omega)
  match j,H with
  | 0,H=>exact qm U 5 H
  | 1,H=>exact qm U 6 H
 refine QN (λb=>b=w.heap.size) W1 10 10 [8] ?_
 refine Qs3 ?_
 refine jh rfl rfl (qi σ) 103 (.tmp 6) rfl k.L 5 rfl [ι s.cur,ι s.tgt] _ (λw' aa=>by obtain⟨x,rfl⟩:=aa;exact Y x) underlying103 rfl ξ ?_;intro K d;go_simp;refine d _ ?_;clear d K
 refine Qs4 ?_
 refine jR rfl rfl ?_;intro K d;refine jr 103 (.tmp 2) (.tmp 7) rfl w.heap.size 103 _ #[ι s.cur,ι s.tgt] rfl rfl (qr M.o 1) ξ rfl (all_oneCell_toArray X9) ?_;refine⟨qi (((jt.refl (λb=>b=w.heap.size) W1).drewN 1).row (g:=w.heap.size) rfl _), ?_⟩;go_simp;refine d _ _ ?_;clear d K
 iterate 1 (refine qE rfl rfl (qi (((jt.refl (λb=>b=w.heap.size) W1).drewN 1).row (g:=w.heap.size) rfl _)) ?_;intro K d;go_big_quiet_op;go_big_quiet_on)
 refine qA ?_;go_wp2;refine bodyPost_ret (v:= .tuple #[θ #[ι s.cur,ι s.tgt],s.wanted]) (yo results67 _ _ w.heap.size 103 #[ι s.cur,ι s.tgt] _ _ rfl rfl (jY (qr M.o 1) _) underlying103 rfl ξ) rfl ?_;exact⟨rfl,(EC _ _ _).to_more (J.o.dr 1) (λk e=>by rw[e];exact ϔ _)⟩
def LnX.setL (h:LnX N w k vo s) (a:jt (λb=>b=k.L) w w') (M:w'.heap[k.L]? =ϊ (.cells (jQ k vo s') 153 (0,0)))
  (e:s'.room=s.room/\s'.A=s.A/\s'.B=s.B/\s'.C=s.C/\s'.W=s.W) (ah:KM s'):LnX (xf N w w') w' k vo s':=by
 obtain⟨⟨O,U,Y,aa,ab,ac⟩,_⟩:=h.dist;obtain⟨H,ad,ae,af,ag⟩:=e;have I: ∀b,b=k.L->lnE N k vo b:=λb d=>kZ (ϑ d)
 have J: ∀b,lnE (xf N w w') k vo b->lnE N k vo b∨w'.heap.size<=b:=λb d=>ϑ (xE h.own (λ_ e=>ϑ e) d)
 refine h.make a.size M ?_ ?_ ?_ ?_ ah
 ·rw[H,ad];exact h.r1.step a (C4 O) (C4 U) I J
 ·rw[H,ae];exact h.r2.step a (C4 Y) (C4 aa) I J
 ·rw[H,af];exact h.r3.step a (C4 ab) (C4 ac) I J
 ·rw[ag];exact h.rows (a.mono λb d=>ϑ d)
def Ec (h:LnX N w k vo s) (n:Int):Calls prog 91 #[γ k.L,ι n] w λe w'=>e= .returned (ι (jO s n).2)/\LnX (xf N w w') w' k vo (jO s n).1/\jt N w w':=by
 have J:=κ h;have ak:k.L<w.heap.size:=qn h.blk;cases ht:jj n with
 | false=>
  have aa:=κ ht;have O:jO s n=(s,1):=by unfold jO;rw[ϐ ht]
  rw[O];clear O ht h
  go_enter func91,ntmps91
  go_wp2_with (go_at_call 151;(go_call xX n _ as e w1 ⟨rfl,rfl⟩;rw[aa.o]))
  go_ret;exact⟨rfl,J.o.grow (ql.refl _),jt.refl _ _⟩
 | true=>
  have aa:=κ ht;cases hg:s.gone with
  | true=>
   have O:jO s n=(s,7):=by unfold jO;rw[ώ (by rw[ht];decide),ϐ hg]
   have M:=gF h;rw[hg] at M;have M:=κ M;rw[O];clear O ht h hg
   go_enter func91,ntmps91
   go_wp2_with (first | (go_at_call 151;(go_call xX n _ as e w1 ⟨rfl,rfl⟩;rw[aa.o])) | (go_at_call 69;(go_call M.o as e w2 ⟨rfl,U⟩;have ac:=κ U;clear U)))
   go_ret;exact⟨rfl,J.o.grow ac.o,jt.of_more ac.o⟩
  | false=>
   have O:jO s n=({s with wanted:=ό,cur:=if s.wanted then s.cur else -1,tgt:=n},0):=by unfold jO;rw[ώ (by rw[ht];decide),ώ (by rw[hg];decide)]
   have M:=gF h;rw[hg] at M;have M:=κ M;rw[O];clear O ht h hg;cases hw:s.wanted with
   | true=>
    have ad:=κ hw;clear hw
    go_enter func91,ntmps91
    go_wp2_with (first | (go_at_call 151;(go_call xX n _ as e w1 ⟨rfl,O⟩;subst w1;rw[aa.o])) | (go_at_call 69;(go_call M.o as e w2 ⟨rfl,U⟩;have ac:=κ U;have Y:=κ (qq U J.o.blk);clear U;have c4:w2.cell? ⟨k.L,4,ϋ⟩=ϊ (μ ό):=(by rw[<-ad.o];exact qm Y.o 4 rfl);have c5:w2.cell? ⟨k.L,5,ϋ⟩=ϊ (ι s.cur):=qm Y.o 5 rfl;have af:w2.cell? ⟨k.L,6,ϋ⟩=ϊ (ι s.tgt):=qm Y.o 6 rfl)) | (go_at_call 152;(go_call QT s.cur s.tgt n aa.o _ as e d ⟨rfl,ab⟩;have ae:Hid (ql w d):=κ (ac.o.trans ab);have H:=κ (qq ab Y.o);clear ab;have c5:d.cell? ⟨k.L,5,ϋ⟩=ϊ (ι s.cur):=qm H.o 5 rfl;have af:d.cell? ⟨k.L,6,ϋ⟩=ϊ (ι s.tgt):=qm H.o 6 rfl;have c4:d.cell? ⟨k.L,4,ϋ⟩=ϊ (μ s.wanted):=qm H.o 4 rfl;have ah:d.frozen? ⟨k.L,4,ϋ⟩=ύ:=yw H.o 4;have ai:d.frozen? ⟨k.L,5,ϋ⟩=ύ:=yw H.o 5;have aj:d.frozen? ⟨k.L,6,ϋ⟩=ύ:=yw H.o 6)))
    go_ret;have A:jt (λb=>b=k.L) w (((d.setCell ⟨k.L,5,ϋ⟩ (ι s.cur)).setCell ⟨k.L,6,ϋ⟩ (ι n)).setCell ⟨k.L,4,ϋ⟩ (μ ό)):=(((jt.of_more (S:=λb=>b=k.L) ae.o).set (p:=⟨k.L,5,ϋ⟩) rfl _).set (p:=⟨k.L,6,ϋ⟩) rfl _).set (p:=⟨k.L,4,ϋ⟩) rfl _;have I:=J.o.ok;exact⟨rfl,J.o.setL A (qB (qp (qp (qp H.o 5 _) 6 _) 4 _) (by rfl)) ⟨rfl,rfl,rfl,rfl,rfl⟩ ⟨I.most,I.row,I.lt,I.sq,I.src⟩,A.mono λb ag=>by rw[ag];exact J.o.muts _ (ϑ rfl)⟩
   | false=>
    have ad:=κ hw;clear hw
    go_enter func91,ntmps91
    go_wp2_with (first | (go_at_call 151;(go_call xX n _ as e w1 ⟨rfl,O⟩;subst w1;rw[aa.o])) | (go_at_call 69;(go_call M.o as e w2 ⟨rfl,U⟩;have ac:=κ U;have Y:=κ (qq U J.o.blk);clear U;have c4:w2.cell? ⟨k.L,4,ϋ⟩=ϊ (μ ύ):=(by rw[<-ad.o];exact qm Y.o 4 rfl);have c5:w2.cell? ⟨k.L,5,ϋ⟩=ϊ (ι s.cur):=qm Y.o 5 rfl;have af:w2.cell? ⟨k.L,6,ϋ⟩=ϊ (ι s.tgt):=qm Y.o 6 rfl)) | (go_at_call 153;(go_call YS n aa.o _ as e d ⟨rfl,ab⟩;have ae:Hid (ql w d):=κ (ac.o.trans ab);have H:=κ (qq ab Y.o);clear ab;have c5:d.cell? ⟨k.L,5,ϋ⟩=ϊ (ι s.cur):=qm H.o 5 rfl;have af:d.cell? ⟨k.L,6,ϋ⟩=ϊ (ι s.tgt):=qm H.o 6 rfl;have c4:d.cell? ⟨k.L,4,ϋ⟩=ϊ (μ s.wanted):=qm H.o 4 rfl;have ah:d.frozen? ⟨k.L,4,ϋ⟩=ύ:=yw H.o 4;have ai:d.frozen? ⟨k.L,5,ϋ⟩=ύ:=yw H.o 5;have aj:d.frozen? ⟨k.L,6,ϋ⟩=ύ:=yw H.o 6)))
    go_ret;have A:jt (λb=>b=k.L) w (((d.setCell ⟨k.L,5,ϋ⟩ (ι (-1))).setCell ⟨k.L,6,ϋ⟩ (ι n)).setCell ⟨k.L,4,ϋ⟩ (μ ό)):=(((jt.of_more (S:=λb=>b=k.L) ae.o).set (p:=⟨k.L,5,ϋ⟩) rfl _).set (p:=⟨k.L,6,ϋ⟩) rfl _).set (p:=⟨k.L,4,ϋ⟩) rfl _;have I:=J.o.ok;exact⟨rfl,J.o.setL A (qB (qp (qp (qp H.o 5 _) 6 _) 4 _) (by rfl)) ⟨rfl,rfl,rfl,rfl,rfl⟩ ⟨I.most,I.row,I.lt,I.sq,I.src⟩,A.mono λb ag=>by rw[ag];exact J.o.muts _ (ϑ rfl)⟩
def Iu (m d I sq st:Int) (n:Nat) (ad:m=n) (Y:1<=n) (aa:n<=8) (ag:1<=d) (ah:d<=10) (aC:U16 sq) (aD:U32 I) (w:World):Calls prog 88 #[θ #[ι m,ι d,ω I,φ sq,ω st]] w λe w'=> ∃L,e= .returned (.tuple #[γ L,ι 0])/\zw (λb=>w.heap.size<=b/\b<w'.heap.size) w' L (Vd n d I sq st)/\ql w w':=by
 have aJ:=κ (Pp m n ad Y aa);have aK:=κ (Pq m n ad Y aa);have aL:=κ (Po m n ad Y aa);have aM:=κ (Ka d ag ah);have aO:Hid (KM (Vd n d I sq st)):=κ ⟨⟨ag,ah⟩,⟨Q1 _,(by show 0<=d;omega)⟩,λ_=>(by show 0<d;omega),aC,aD⟩;clear ad Y aa ag ah aC aD
 go_enter func88,ntmps88
 go_wp2_with (first | (go_at_call 146;(go_call aJ.o _ as e w1 ⟨rfl,az,aj⟩;have ap:Hid (qN 13 327 253 w1 (w.heap.size+1+1) (w.heap.size+1) n 0 [] 0 0 0 0 (List.replicate n (Γa:List Value))):=κ (by simpa using az);have au:=κ (qq aj (qj w (.cells #[ι m,ι d,ω I,φ sq,ω st] 199)));have aR:Hid (ql w w1):=κ (X8.trans aj);clear aj az;have aT:w1.cell? ⟨w.heap.size,0,ϋ⟩=ϊ (ι m):=qm au.o 0 rfl)) | (go_at_call 147;(go_call aK.o _ as e w2 ⟨rfl,aA,ak⟩;have aq:=κ aA;have av:=κ (qq ak au.o);have ax:Hid (ql w1 w2):=κ ak;clear ak aA;have aT:w2.cell? ⟨w.heap.size,0,ϋ⟩=ϊ (ι m):=qm av.o 0 rfl)) | (go_at_call 148;(go_call aL.o _ as e ae ⟨rfl,aB,am⟩;have ar:=κ aB;have aw:=κ (qq am av.o);have af:Hid (ql w2 ae):=κ am;clear am aB;have c1:ae.cell? ⟨w.heap.size,1,ϋ⟩=ϊ (ι d):=qm aw.o 1 rfl)) | (go_at_call 149;(go_call aM.o _ as e w4 ⟨rfl,an⟩;have aS:Hid (ql ae w4):=κ an;have aP:=κ (qq an aw.o);clear an)))
 obtain⟨J,ab⟩:=ν (w4.alloc (.cells #[ι d,ι 0,ύ] 151));have ay:Hid (ql w4 J):=κ (by rw[<-ab];exact ql.alloc _ _);have aQ:=κ (qq ay.o aP.o);have aI:Hid (J.heap[w4.heap.size]? =ϊ (.cells #[ι d,ι 0,ύ] 151 (0,0))):=κ (by rw[<-ab];exact qj w4 _);rw[ab];clear ab;have O:=λ(x:qt J)=>qq x.h aQ.o
 have c2:=λx=>β2 (O x);have c3:=λx=>β3 (O x);have c4:=λx=>β4 (O x);clear O
 have aN: ∀x:qt J,x.w'.rangeAt w4.heap.size 0 [ι d,ι 0,ύ]:=λx=>xy (qq x.h aI.o)
 refine zC J 15 [(0,ύ),(1,ύ),(2,ύ),(3,ύ),(4,ύ),(5,ύ),(6,ύ),(7,ύ),(8,ύ),(10,ύ),(9,ό),(11,ύ),(12,ό),(13,ύ),(14,ύ)] ξ ξ ?_
 refine Qq9 ?_
 refine jh rfl rfl (qk ρ) 151 (.tmp 8) rfl w4.heap.size 0 rfl [ι d,ι 0,ύ] _ (λw' aU=>by obtain⟨x,rfl⟩:=aU;exact aN x) underlying151 rfl ξ ?_;intro K H;go_simp;refine H _ ?_;clear H K
 (refine Ql ?_;intro K H)
 go_call Zf I sq st _ as e w6 ⟨rfl,aE⟩;have M:Hid (ql J w6):=κ ((ql.drewN _ _).trans aE);clear aE;refine⟨_,rfl,qk M.o,H _ _ ?_⟩;clear H K
 iterate 1 (refine qE rfl rfl (qk M.o) ?_;intro K H;go_big_quiet_op;go_big_quiet_on)
 (refine Ql ?_;intro K H)
 refine⟨qk (M.o.al _),H _ _ ?_⟩;clear H K
 iterate 2 (refine qE rfl rfl (qk (M.o.al _)) ?_;intro K H;go_big_quiet_op;go_big_quiet_on)
 refine qA ?_;go_wp2;refine bodyPost_ret (v:= .tuple #[γ w6.heap.size,ι 0]) (by simp[results,results88,go_sem]) rfl ?_;obtain⟨W7,ac⟩:=ν (w6.alloc (.cells #[δ ϋ 0 0,γ (w.heap.size+1+1),γ (w1.heap.size+1),γ (w2.heap.size+1),ύ,ι 0,ι 0,ω I,φ sq,ω st,ύ,ω 0,ω 0,ι d,ι 0,ύ] 153));have ao:W7.heap[w6.heap.size]? =ϊ (.cells (jQ ⟨w6.heap.size,w.heap.size+1+1,w.heap.size+1,w1.heap.size+1,w1.heap.size,w2.heap.size+1,w2.heap.size⟩ (δ ϋ 0 0) (Vd n d I sq st)) 153 (0,0)):=by rw[<-ac];exact qj w6 _
 have U:ql w6 W7:=by rw[<-ac];exact ql.alloc _ _
 have aV:w6.heap.size<W7.heap.size:=qn ao;rw[ac];clear ac;have N:ql ae w6:=(aS.o.trans ay.o).trans M.o;have aX:=qn ap.o.ring;have aY:=qn aq.o.ring;have z3:=qn ar.o.ring;have aW:=N.size;have aF:=(ap.o.more ((ax.o.trans af.o).trans (N.trans U)));have aG:=(aq.o.more (af.o.trans (N.trans U)));have aH:=(ar.o.more (N.trans U));refine⟨_,rfl,⟨⟨w6.heap.size,w.heap.size+1+1,w.heap.size+1,w1.heap.size+1,w1.heap.size,w2.heap.size+1,w2.heap.size⟩,δ ϋ 0 0,rfl, ?_⟩,((aR.o.trans ax.o).trans af.o).trans (N.trans U)⟩;refine⟨λb ai=>ai.2,λb ai=> ?_,by simp only;omega,ao,⟨_,_,_,_,_,_,_,aF,trivial⟩,⟨_,_,_,_,_,_,_,aG,trivial⟩,⟨_,_,_,_,_,_,_,aH,trivial⟩,je.nil 2 ROu _ W7 0 _,aO.o⟩;rcases ai with e | (e | e) | (e | e) | (e | e)<;>(simp only at e;subst e;constructor<;>omega)
end Go.Proofs.YtlmllmonabafjaaGreatDoor
