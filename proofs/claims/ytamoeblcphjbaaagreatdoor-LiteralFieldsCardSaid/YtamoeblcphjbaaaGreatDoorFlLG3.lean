/- A part of the proof for LiteralFieldsCardSaid. -/
import Derived.Test.YtamoeblcphjbaaaGreatDoorFlL20
import Derived.Test.YtamoeblcphjbaaaGreatDoorFlF
set_option maxRecDepth 100000
set_option linter.unusedVariables false
set_option linter.unusedSimpArgs false
namespace Go.Proofs.YtamoeblcphjbaaaGreatDoor
open Go Go.Ab
attribute [local irreducible] vc
section
variable {α β:Type}{f:α→List β}{k:Nat}
theorem HV (h:∀ x,(f x).length=k):∀ l:List α,(l.flatMap f).length=l.length*k
 | []=>by simp
 | x::r=>by rw[List.flatMap_cons,List.length_append,h x,HV h r,List.length_cons,Nat.succ_mul];omega
theorem rP (h:∀ x,(f x).length=k):∀ (l:List α) (i:Nat),(l.flatMap f).drop (i*k)=(l.drop i).flatMap f
 | l,0=>by simp
 | [],i+1=>by simp
 | x::r,i+1=>by
   rw[List.flatMap_cons,Nat.succ_mul,Nat.add_comm,← List.drop_drop,List.drop_left' (h x),rP h r i,List.drop_succ_cons]
theorem BN (h:∀ x,(f x).length=k):∀ (l:List α) (i:Nat),(l.flatMap f).take (i*k)=(l.take i).flatMap f
 | l,0=>by simp
 | [],i+1=>by simp
 | x::r,i+1=>by
   have hx:=h x
   rw[List.flatMap_cons,List.take_succ_cons,List.flatMap_cons,List.take_append,Nat.succ_mul,hx,Nat.add_sub_cancel,BN h r i,List.take_of_length_le (by omega)]
end
def iJ (x:Fld):List AV:=x.pv.cells.map .pv
def mQ (l:List Fld):List AV:=l.flatMap iJ
theorem gS (x:Fld):(iJ x).length=7:=by
 unfold iJ;rw[List.length_map];exact Fld.cells_len x
theorem zd (l:List Fld):bx (l.map Fld.pv)=mQ l:=by
 unfold bx mQ iJ
 induction l with
 | nil=>rfl
 | cons x r ih=>rw[List.map_cons,List.flatMap_cons,List.map_append,ih,List.flatMap_cons]
theorem s7 (l:List Fld):(mQ l).length=l.length*7:=HV gS l
theorem ol (l:List Fld)(i:Nat):(mQ l).drop (i*7)=mQ (l.drop i):=rP gS l i
theorem zb (l:List Fld)(i:Nat):(mQ l).take (i*7)=mQ (l.take i):=BN gS l i
theorem EH (a b:List Fld):mQ (a++b)=mQ a++mQ b:=List.flatMap_append
theorem om (x:Fld)(r:List Fld):mQ (x::r)=iJ x++mQ r:=List.flatMap_cons
theorem ze {l:List Fld}{i:Nat}{x:Fld}(h:l[i]? = some x):((mQ l).drop (i*7)).take 7=iJ x:=by
 rw[ol,bw h,om,List.take_left' (gS x)]
theorem zc {l:List Fld}{i:Nat}{x:Fld}(h:l[i]? = some x):di true 7 (i*7) (mQ l)=some (fe (iJ x)):=by
 have hl:i<l.length:=(List.getElem?_eq_some_iff.1 h).1
 unfold di
 simp only
 rw[if_pos (by rw[s7];omega),ze h]
theorem EG (l:List Fld)(i:Nat)(x:Fld):(mQ l).take (i*7)++iJ x++(mQ l).drop (i*7+7)=mQ (l.take i++x::l.drop (i+1)):=by
 rw[zb,show i*7+7=(i+1)*7 by omega,ol,EH,om,List.append_assoc]
def ln (l:List Fld):List PV:=l.flatMap fun x=>x.pv.cells
theorem gq (l:List Fld):mQ l=(ln l).map AV.pv:=by
 unfold mQ ln iJ
 rw[List.map_flatMap]
theorem mP (l:List Fld):(ln l).length=l.length*7:=by
 have:=s7 l
 rwa [gq,List.length_map] at this
theorem za (l:List Fld):bx (l.map Fld.pv)=(ln l).map AV.pv:=by rw[zd,gq]
theorem y9 {l:List Fld}{i:Nat}{x:Fld}(h:l[i]? = some x):di true 7 (i*7) ((ln l).map AV.pv)=some (fe (iJ x)):=by
 rw[← gq];exact zc h
theorem EF (l:List Fld)(i:Nat)(x:Fld):((ln l).map AV.pv).take (i*7)++iJ x++((ln l).map AV.pv).drop (i*7+7)=(ln (l.take i++x::l.drop (i+1))).map AV.pv:=by
 rw[← gq,← gq];exact EG l i x
theorem CE (x:Fld):fe (iJ x) = .pv x.pv:=by
 obtain⟨cs,h,_,_⟩:=Fld.row x
 unfold iJ fe
 rw[kg,h];rfl
theorem oj {l:List Fld}{i:Nat}{x:Fld}(h:l[i]? = some x):Fr 7 (i*7) ((ln l).map AV.pv)=some (.pv x.pv):=by
 rw[← Aq,y9 h,CE]
theorem Eg {α:Type}(l:List α)(i:Nat)(x:α)(h:i<l.length):l.take i++x::l.drop (i+1)=l.set i x:=by
 rw[List.set_eq_take_append_cons_drop,if_pos h]
theorem yw {l:List Fld}{i k:Nat}{x y:Fld}(hi:l[i]? = some x)(hk:l[k]? = some y):((l.set i y).set k x).Perm l:=by
 obtain⟨h1,rfl⟩:=List.getElem?_eq_some_iff.1 hi
 obtain⟨h2,rfl⟩:=List.getElem?_eq_some_iff.1 hk
 exact List.set_set_perm h1 h2
end Go.Proofs.YtamoeblcphjbaaaGreatDoor
namespace Go.Proofs.YtamoeblcphjbaaaGreatDoor
open Go Go.Ab Go.RowKit
attribute [local irreducible] vc
theorem K1 (l:List Fld)(hl:l.length≤70000)(new q:Nat)(f:Bool):sd 39 7 104 new q 7 0 0 (l.map Fld.pv) (.cells 39 f [])=some (.row new 7 0 l.length,[(q,.none),(new,.cells 39 false ((ln l).map .pv))]):=by
 rw[jG (by simp) (by simp;omega) (by simp;omega),za];simp
theorem sZ {l:List Fld}{i:Nat}{x:Fld}(h:l[i]? = some x):(ln l).drop (i*7)=x.pv.cells++ln (l.drop (i+1)):=by
 have h1:(ln l).drop (i*7)=ln (l.drop i):=rP (f:=fun x:Fld=>x.pv.cells) Fld.cells_len l i
 rw[h1,bw h];exact List.flatMap_cons
theorem EE {l:List Fld}{i:Nat}{x:Fld}(h:l[i]? = some x):(ln l)[i*7]? = some (.str x.name):=by
 have h1:=sZ h
 have h2:((ln l).drop (i*7))[0]? = (ln l)[i*7]?:=by rw[List.getElem?_drop,Nat.add_zero]
 rw[← h2,h1]
 obtain⟨nm,⟨k,n,s,t,q,fs⟩⟩:=x
 rw[Fld.pv_mk];rfl
theorem Jh {l:List Fld}{i:Nat}{x:Fld}(h:l[i]? = some x):Fr 6 (i*7+1) ((ln l).map AV.pv)=some (.pv x.value.pv):=by
 have h1:=sZ h
 have hi:=(List.getElem?_eq_some_iff.1 h).1
 rw[tw,if_pos (by rw[List.length_map,mP];omega),← List.map_drop,← List.drop_drop,h1,← List.map_take]
 obtain⟨nm,⟨k,n,s,t,q,fs⟩⟩:=x
 simp only[Fld.value]
 rw[Fld.pv_mk,Val.pv_mk]
 unfold fe
 rw[kg]
 rfl
theorem oh (r:Nat){l:List Fld}{i:Nat}(x:Fld)(h:i<l.length):yD r 39 false (List.map AV.pv (ln l)) 7 (i*7) (List.map AV.pv x.pv.cells) (decide (x.pv.cells.length=7)&&x.pv.cells.all fun x=>x.one)=some [(r,.cells 39 false (List.map AV.pv (ln (l.set i x))))]:=by
 have h1:=Fld.cells_len x
 have h2:(x.pv.cells.all fun x=>x.one)=true:=x.ones
 rw[h1,h2]
 rw[show (decide (7=7)&&true)=true from rfl,sP,← Eg l i x h,← EF]
 rfl
section
variable {T:Nat}{p:PV}
set_option maxHeartbeats 4000000 in
theorem SC (v:Val)(hv:v.ok)(os:List UInt8)(ho:os.length≤140737488351232):aq Tryz.prog (dD T p) 6 [v.pv,.list (aA os)] (.bool true):=by
 have hk:=toE (T:=T) (p:=p) Kc
 have hsm:=toE (T:=T) (p:=p) (IM _ v (rI v) hv)
 have h15:=toE (T:=T) (p:=p) (Cw v hv)
 generalize yP (lvl v) v=sm at *
 have hkind:v.kind=9∨¬ v.kind=9:=by omega
 rcases hkind with h9 | h9
 ·have hall:=rI v
  have hceq:=Cx v
  obtain⟨nn,hnn⟩:=A3 v
  have hdp:=jC _ v hall
  rw[hnn] at hdp hceq
  by_cases hc:DA v=0
  ·by_cases hfs:v.fields=[]
   ·obtain⟨k,m,s,t,l,fs⟩:=v
    simp only[Val.kind,Val.fields] at h9 hfs
    subst h9 hfs
    generalize DA (.mk 9 m s t l [])=c at *
    simp only[Val.pv_mk] at h15 hsm ⊢
    refine aq.intro jH (by simp[gZ]) ?_
    cases sm with
    | false=>
      simp(disch:=try exact dI) only[gZ,push_cast,seval]
      refine ab.pure hk rfl ?_
      simp(disch:=try exact dI) only[push_cast,seval]
      refine ab.pure hsm rfl ?_
      simp(disch:=try exact dI) only[push_cast,seval]
      refine ab.pure hk rfl ?_
      simp(disch:=try exact dI) only[push_cast,seval]
    | true=>
      simp(disch:=try exact dI) only[gZ,push_cast,seval]
      refine ab.pure hk rfl ?_
      simp(disch:=try exact dI) only[push_cast,seval]
      refine ab.pure hsm rfl ?_
      simp(disch:=try exact dI) only[push_cast,seval]
      refine ab.pure hk rfl ?_
      simp(disch:=try exact dI) only[push_cast,seval]
   ·have hs:=mK (hceq.symm.trans hc)
    obtain⟨fs,rfl,hasc,h64⟩:=zz hs h9
    simp only[Val.fields] at hfs
    have hch:∀ x∈fs,aq Tryz.prog (dD T p) 14 [x.value.pv] (.tup [.str (Mk (au nn x.value)),.int .i64 (Ml (au nn x.value))]):=by
     intro x hx
     have hx':x.value∈aY (.mk 9 0 0 [] [] fs):=by
      rw[db rfl]
      exact List.mem_map.2 ⟨x,hx,rfl⟩
     have hd1:=hdp _ hx'
     have hc1:=GL (hceq.symm.trans hc) hx'
     obtain⟨m,rfl⟩:∃ m,nn=m+1:=by
      cases nn with
      | zero=>exact hd1.elim
      | succ m=>exact⟨m,rfl⟩
     have ht:=MD hd1 (tv hv hx')
     rw[hc1,if_pos (.inl rfl)] at ht
     exact toE ht
    have hpp:=fun (l:List Fld) hp h0 hl=>vT (l:=l) hdp hc hs hasc hp h0 hl
    have h18:=fun s=>JB (T:=T) (p:=p) s
    have he:=toE (T:=T) (p:=p) (KC _ _ _ hall hv hv)
    rw[decide_eq_true ((pO _ _ _ hall).2 rfl)] at he
    rw[hc] at h15
    clear hall hceq hdp hs hv hc hnn
    simp only[Val.pv_mk] at h15 hsm he ⊢
    refine aq.intro jH (by simp[gZ]) ?_
    cases sm with
    | false=>
      simp(disch:=try exact dI) only[gZ,push_cast,seval]
      refine ab.pure hk rfl ?_
      simp(disch:=try exact dI) only[push_cast,seval]
      refine ab.pure hsm rfl ?_
      simp(disch:=try exact dI) only[push_cast,seval]
      refine ab.pure hk rfl ?_
      simp(disch:=try exact dI) only[push_cast,seval]
    | true=>
      have hl0:¬ (fs.length:Int)=0:=by
       have:fs.length≠0:=fun h=>hfs (List.eq_nil_of_length_eq_zero h)
       omega
      have hap:=K1 fs (by omega)
      have ha7:(fs.all fun x=>x.pv.cells.length == 7)=true:=List.all_eq_true.2 fun x _=>by rw[Fld.cells_len];rfl
      simp(disch:=try exact dI) only[gZ,push_cast,seval]
      refine ab.pure hk rfl ?_
      simp(disch:=try exact dI) only[push_cast,seval]
      refine ab.pure hsm rfl ?_
      simp(disch:=try exact dI) only[hl0,push_cast,seval]
      refine ab.pure h15 rfl ?_
      simp(disch:=try exact dI) only[ha7,hap,push_cast,seval]
      refine aN ([]) (fun y:Nat×List Fld=>[(6,.pv (.int .i64 (y.1:Int)))]) (fun y=>[(0,.cells 39 false ((ln y.2).map .pv))]) (fun y=>y.2.Perm fs) (fun y=>fs.length - y.1) ((0,fs)) ?_;intro e0 σ0 n0 h0;simp(disch:=try exact dI) only[push_cast,seval] at h0;obtain⟨rfl,rfl,rfl⟩:=h0;refine⟨?_,?_,?_⟩
      ·simp(disch:=try exact dI) only[push_cast,seval]
      ·exact .refl _
      ·rintro⟨i,L⟩ hL
       simp only at hL
       have hLl:L.length=fs.length:=hL.length_eq
       have hrl:=mP L
       have hol:(aA os).length=os.length:=dw os
       by_cases hlt:i<os.length∧i<fs.length
       ·obtain⟨hlo,hlf⟩:=hlt
        have hloI:(i:Int)<(os.length:Int):=by omega
        have hlfI:(i:Int)<(fs.length:Int):=by omega
        obtain⟨b,hb⟩:∃ b,os[i]? = some b:=⟨_,List.getElem?_eq_getElem hlo⟩
        have hb':(aA os)[i]? = some (.int .u8 (b.toNat:Int)):=by simp[aA,hb]
        obtain⟨k,hk'⟩:∃ k,k=b.toNat % fs.length:=⟨_,rfl⟩
        have hkl:k<fs.length:=by rw[hk'];exact Nat.mod_lt _ (by omega)
        have hmod:(b.toNat:Int) % (fs.length:Int)=(k:Int):=by rw[hk'];omega
        have hbb:b.toNat<256:=b.toNat_lt
        obtain⟨x,hx⟩:∃ x,L[i]? = some x:=⟨_,List.getElem?_eq_getElem (by omega)⟩
        obtain⟨y,hy⟩:∃ y,L[k]? = some y:=⟨_,List.getElem?_eq_getElem (by omega)⟩
        have hlx:=oj hx
        have hly:=oj hy
        have hs1:=oh 0 y (show i<L.length by omega)
        have hs2:=oh 0 x (show k<(L.set i y).length by rw[List.length_set];omega)
        have hrl2:(ln (L.set i y)).length=fs.length*7:=by rw[mP,List.length_set,hLl]
        have hpm:=(yw hx hy).trans hL
        simp(disch:=try exact dI) only[hol,hloI,hlfI,hb',hmod,hlx,hly,hs1,hs2,push_cast,seval]
        exact⟨(i+1,(L.set i y).set k x),bz qsZ,hpm,by simp only;omega⟩
       ·have hno:¬ ((i:Int)<(os.length:Int)∧(i:Int)<(fs.length:Int)):=by omega
        clear hlt
        have hLne:L≠[]:=fun h=>hfs (List.eq_nil_of_length_eq_zero (by rw[← hLl,h];rfl))
        have hsnoc:∀ (j:Nat) (x:Fld),L[j]? = some x→eV (au nn) (L.take (j+1))=eV (au nn) (L.take j)++([44]++(x.name++[58]++au nn x.value)):=fun j x hx=>by
         unfold eV;rw[aP hx,List.flatMap_append];simp[iW]
        by_cases hlo:(i:Int)<(os.length:Int)
        case' pos=>
         have hlf:¬ (i:Int)<(fs.length:Int):=fun h=>hno ⟨hlo,h⟩
         simp(disch:=try exact dI) only[hol,hlo,hlf,push_cast,seval]
        case' neg=>
         simp(disch:=try exact dI) only[hol,hlo,push_cast,seval]
        all_goals
         refine aN ([]) (fun j:Nat=>[(8,.pv (.str (eV (au nn) (L.take j)))),(9,.pv (.int .i64 (j:Int)))]) (fun _=>[]) (fun j=>j≤fs.length∧(eV (au nn) (L.take j)).length≤j*70000) (fun j=>fs.length - j) (0) ?_;intro e0 σ0 n0 h0;simp(disch:=try exact dI) only[push_cast,seval] at h0;obtain⟨rfl,rfl,rfl⟩:=h0;refine⟨?_,?_,?_⟩
         ·simp(disch:=try exact dI) only[List.take_zero,eV,List.flatMap_nil,push_cast,seval]
         ·exact⟨by omega,by simp[eV]⟩
         ·rintro j ⟨hj,hjl⟩
          by_cases hlt:j<fs.length
          ·have hltI:(j:Int)<(fs.length:Int):=by omega
           obtain⟨x,hx⟩:∃ x,L[j]? = some x:=⟨_,List.getElem?_eq_getElem (by omega)⟩
           have hxf:=hL.mem_iff.1 (List.mem_of_getElem? hx)
           have hc:=hch x hxf
           have hnl:=kx (gX _ _ hasc _ (List.mem_map.2 ⟨x,hxf,rfl⟩))
           have hln:=EE hx
           have hlv:=Jh hx
           have hsn:=hsnoc j x hx
           obtain⟨nm,⟨xk,xn,xs,xt,xl,xf⟩⟩:=x
           simp only[Fld.value,Fld.name] at hc hnl hln hlv hsn
           generalize au nn (.mk xk xn xs xt xl xf)=X at *
           generalize eV (au nn) (L.take j)=Y at *
           simp only[Val.pv_mk] at hc hlv
           unfold Mk Ml at hc
           by_cases hX:65536<X.length
           ·rw[if_pos hX,if_pos hX] at hc
            simp(disch:=try exact dI) only[hltI,hlv,push_cast,seval]
            refine ab.pure hc rfl ?_
            simp(disch:=try exact dI) only[push_cast,seval]
           ·rw[if_neg hX,if_neg hX] at hc
            simp(disch:=try exact dI) only[hltI,hlv,push_cast,seval]
            refine ab.pure hc rfl ?_
            simp(disch:=try exact dI) only[hln,push_cast,seval]
            exact⟨j+1,bz (by simp(disch:=try exact dI) only[hsn,List.append_assoc,push_cast,seval]),⟨by omega,by rw[hsn];simp only[List.length_append,List.length_cons,List.length_nil];omega⟩,by omega⟩
          ·have hltI:¬ (j:Int)<(fs.length:Int):=by omega
           have hjL:L.take j=L:=List.take_of_length_le (by omega)
           rw[hjL] at hjl ⊢
           have hp1:=hpp L hL hLne
           have h181:=h18 ([123]++(eV (au nn) L).drop 1++[125])
           have hpos:1≤(eV (au nn) L).length:=by
            have:=uo (iW (au nn)) L
            unfold eV
            omega
           generalize eV (au nn) L=Y at *
           have hposI:(1:Int)≤(Y.length:Int):=by omega
           by_cases hbig:(60000:Int)<(Y.length:Int)
           ·simp(disch:=try exact dI) only[hltI,hbig,push_cast,seval]
           ·rw[hp1 (by simp only[List.length_append,List.length_cons,List.length_nil,List.length_drop];omega)] at h181
            simp only[Val.pv_mk] at h181
            simp(disch:=try exact dI) only[hltI,hbig,hposI,List.take_length,push_cast,seval]
            refine ab.pure h181 rfl ?_
            simp(disch:=try exact dI) only[push_cast,seval]
            refine ab.pure he rfl ?_
            simp(disch:=try exact dI) only[push_cast,seval]
  ·generalize DA v=c at *
   obtain⟨k,m,s,t,l,fs⟩:=v
   simp only[Val.kind] at h9
   subst h9
   simp only[Val.pv_mk] at h15 hsm ⊢
   refine aq.intro jH (by simp[gZ]) ?_
   cases sm with
   | false=>
     simp(disch:=try exact dI) only[gZ,push_cast,seval]
     refine ab.pure hk rfl ?_
     simp(disch:=try exact dI) only[push_cast,seval]
     refine ab.pure hsm rfl ?_
     simp(disch:=try exact dI) only[push_cast,seval]
     refine ab.pure hk rfl ?_
     simp(disch:=try exact dI) only[push_cast,seval]
   | true=>
     by_cases hfs:(fs.length:Int)=0
     ·simp(disch:=try exact dI) only[gZ,push_cast,seval]
      refine ab.pure hk rfl ?_
      simp(disch:=try exact dI) only[push_cast,seval]
      refine ab.pure hsm rfl ?_
      simp(disch:=try exact dI) only[hfs,push_cast,seval]
      refine ab.pure hk rfl ?_
      simp(disch:=try exact dI) only[push_cast,seval]
     ·simp(disch:=try exact dI) only[gZ,push_cast,seval]
      refine ab.pure hk rfl ?_
      simp(disch:=try exact dI) only[push_cast,seval]
      refine ab.pure hsm rfl ?_
      simp(disch:=try exact dI) only[hfs,push_cast,seval]
      refine ab.pure h15 rfl ?_
      simp(disch:=try exact dI) only[hc,push_cast,seval]
      refine ab.pure hk rfl ?_
      simp(disch:=try exact dI) only[push_cast,seval]
 ·obtain⟨k,m,s,t,l,fs⟩:=v
  simp only[Val.pv_mk] at h15 hsm ⊢
  simp only[Val.kind] at h9
  refine aq.intro jH (by simp[gZ]) ?_
  cases sm with
  | false=>
    simp(disch:=try exact dI) only[gZ,push_cast,seval]
    refine ab.pure hk rfl ?_
    simp(disch:=try exact dI) only[push_cast,seval]
    refine ab.pure hsm rfl ?_
    simp(disch:=try exact dI) only[push_cast,seval]
    refine ab.pure hk rfl ?_
    simp(disch:=try exact dI) only[push_cast,seval]
  | true=>
    simp(disch:=try exact dI) only[gZ,push_cast,seval]
    refine ab.pure hk rfl ?_
    simp(disch:=try exact dI) only[push_cast,seval]
    refine ab.pure hsm rfl ?_
    simp(disch:=try exact dI) only[h9,push_cast,seval]
    refine ab.pure hk rfl ?_
    simp(disch:=try exact dI) only[push_cast,seval]
end
end Go.Proofs.YtamoeblcphjbaaaGreatDoor
namespace Go.Proofs.YtamoeblcphjbaaaGreatDoor
open Go Go.Ab
theorem GQ {p1:PV}(h1:HasT Tryz.prog 37 p1):∃ os:List UInt8,p1 = .list (aA os)∧os.length≤140737488351232:=by
 obtain⟨os,rfl,hl,_⟩:=F5 (f:=fun b:UInt8=>PV.int .u8 (b.toNat:Int)) (Q:=fun _=>True) h1 Tryz.underlying37 (b:=1) (by kernel_rfl) fun x hx=>by
  obtain⟨n,rfl,hw⟩:=t8 hx Tryz.underlying5
  have hr:0≤n∧n<256:=by
   simp only[Lit.wf,Bool.and_eq_true,decide_eq_true_eq] at hw
   have h1:IntKind.u8.min=0:=rfl
   have h2:IntKind.u8.max=255:=rfl
   omega
  refine⟨UInt8.ofNat n.toNat,?_,trivial⟩
  rw[UInt8.toNat_ofNat',show ((n.toNat % 2 ^ 8:Nat):Int)=n by omega]
 exact⟨os,rfl,by omega⟩
theorem BT (q:PV)(p0 p1:PV)(h0:HasT Tryz.prog 25 p0)(h1:HasT Tryz.prog 37 p1):aq Tryz.prog (dD 270 q) 6 [p0,p1] (.bool true):=by
 obtain⟨v,rfl,hv⟩:=Gg h0
 obtain⟨os,rfl,hl⟩:=GQ h1
 exact SC v hv os hl
end Go.Proofs.YtamoeblcphjbaaaGreatDoor
