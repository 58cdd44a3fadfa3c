/- Package mask: the mask of some fields. -/
import Derived.Test.YtaakhjmfojoodaaGreatDoorMask1
namespace Go.Proofs.YtaakhjmfojoodaaGreatDoor
open Go Go.Vai
noncomputable section
set_option maxRecDepth 100000
def Yd:Option AV→Bool
 |some (.tup [.int .u64 _,.bool _])=>true
 |_=>false
def Wa(v0 v1 r:Nat):Option AV:=bc (Nat.blt 63 r) (some (.tup [.int .u64 (.ofNat 0),.bool false])) (bc (!(Nat.blt r v0)) (some (.tup [.int .u64 (.ofNat 0),.bool false])) (bc (Z2 (Za .i64 (Int.sub (.ofNat v0) (.ofNat r))) (.ofNat 0)) (none) (bc (AV.eqb (.int .u64 (Za .u64 (Zw .u64 (Zc (onV v1) (Nat.min r 64)) (Za .u64 (Zf (onV v1) (Nat.min (Int.toNat (Za .i64 (Int.sub (.ofNat v0) (.ofNat r)))) 64)))))) (.int .u64 (Za .u64 (Zw .u64 (Zc (onV v1) (Nat.min r 64)) (Za .u64 (Zf (onV v1) (Nat.min (Int.toNat (Za .i64 (Int.sub (.ofNat v0) (.ofNat r)))) 64))))))) (bc (Z2 (Za .i64 (Int.sub (.ofNat v0) (.ofNat r))) (.ofNat 0)) (none) (bc (AV.eqb (.int .u64 (Za .u64 (Zf (onV v1) (Nat.min (Int.toNat (Za .i64 (Int.sub (.ofNat v0) (.ofNat r)))) 64)))) (.int .u64 (Za .u64 (Zf (onV v1) (Nat.min (Int.toNat (Za .i64 (Int.sub (.ofNat v0) (.ofNat r)))) 64))))) (bc (AV.eqb (.int .i64 (Za .i64 (Int.sub (.ofNat v0) (.ofNat r)))) (.int .i64 (Za .i64 (Int.sub (.ofNat v0) (.ofNat r))))) (bc (AV.eqb (.int .i64 (.ofNat r)) (.int .i64 (.ofNat r))) (bc (AV.eqb (.int .u64 (onV v1)) (.int .u64 (onV v1))) (bc (AV.eqb (.int .u64 (Zc (onV v1) (Nat.min r 64))) (.int .u64 (Zc (onV v1) (Nat.min r 64)))) (bc (AV.eqb (.int .i64 (.ofNat r)) (.int .i64 (.ofNat r))) (bc (AV.eqb (.int .u64 (onV v1)) (.int .u64 (onV v1))) (some (.tup [.int .u64 (spV (Za .u64 (Ze .u64 (Za .u64 (Zw .u64 (Zc (onV v1) (Nat.min r 64)) (Za .u64 (Zf (onV v1) (Nat.min (Int.toNat (Za .i64 (Int.sub (.ofNat v0) (.ofNat r)))) 64))))) (onV v0))) v0),.bool true])) (none)) (none)) (none)) (none)) (none)) (none)) (none))) (none))))
theorem Zi{v0 v1 r:Nat}(h6:v0≤64):Yd (Wa v0 v1 r)=true:=by
 unfold Wa
 by_cases h:r<v0
 ·simp only[Z9c (Nat.le_of_lt h) h6,Zzj,Yg,Ym,W9]
  repeat (first|rfl|apply Zx)
 ·have g:Nat.blt r v0=false:=by rw[Bool.eq_false_iff];intro hc;rw[Nat.blt_eq] at hc;exact h hc
  simp only[g,Ym,Bool.not_false]
  repeat (first|rfl|apply Zx)
abbrev X5(n r s:Nat):Option AV:=Yr ML1 1000 (.call 105 [.int .i64 (.ofNat n),.int .i64 (.ofNat r),.int .i64 (.ofNat s)] (Yc 12 gl)) [] jK
def Y1f(r:Nat):Option AV:=Wa 32 1 r
theorem Yuj(r:Nat):X5 0 r 0=Y1f r:=by kernel_rfl
theorem Yu1(r:Nat):Yd (Y1f r)=true:=Zi (by decide)
def Y12(r:Nat):Option AV:=Wa 32 2 r
theorem Yww(r:Nat):X5 0 r 1=Y12 r:=by kernel_rfl
theorem Yws(r:Nat):Yd (Y12 r)=true:=Zi (by decide)
def Y4u(r:Nat):Option AV:=Wa 32 3 r
theorem Yvj(r:Nat):X5 0 r 2=Y4u r:=by kernel_rfl
theorem Yut(r:Nat):Yd (Y4u r)=true:=Zi (by decide)
def Y5a(r:Nat):Option AV:=Wa 32 4 r
theorem Yvx(r:Nat):X5 0 r 3=Y5a r:=by kernel_rfl
theorem Yw3(r:Nat):Yd (Y5a r)=true:=Zi (by decide)
def Y0l(r:Nat):Option AV:=Wa 32 5 r
theorem Ywu(r:Nat):X5 0 r 4=Y0l r:=by kernel_rfl
theorem Yuk(r:Nat):Yd (Y0l r)=true:=Zi (by decide)
def Y30(r:Nat):Option AV:=Wa 32 6 r
theorem Yyx(r:Nat):X5 0 r 5=Y30 r:=by kernel_rfl
theorem Yuv(r:Nat):Yd (Y30 r)=true:=Zi (by decide)
def Y2v(r:Nat):Option AV:=Wa 32 7 r
theorem Yuw(r:Nat):X5 0 r 6=Y2v r:=by kernel_rfl
theorem Yvk(r:Nat):Yd (Y2v r)=true:=Zi (by decide)
def Y1d(r:Nat):Option AV:=Wa 32 8 r
theorem Yt3(r:Nat):X5 0 r 7=Y1d r:=by kernel_rfl
theorem Yti(r:Nat):Yd (Y1d r)=true:=Zi (by decide)
def Y1w(r:Nat):Option AV:=Wa 32 9 r
theorem Yt7(r:Nat):X5 0 r 8=Y1w r:=by kernel_rfl
theorem Yuz(r:Nat):Yd (Y1w r)=true:=Zi (by decide)
def Y4g(r:Nat):Option AV:=Wa 32 10 r
theorem Yt9(r:Nat):X5 0 r 9=Y4g r:=by kernel_rfl
theorem Yyv(r:Nat):Yd (Y4g r)=true:=Zi (by decide)
def Ynj(r:Nat):Option AV:=Wa 32 11 r
theorem Ynx(r:Nat):X5 0 r 10=Ynj r:=by kernel_rfl
theorem Yg6(r:Nat):Yd (Ynj r)=true:=Zi (by decide)
def Ygw(r:Nat):Option AV:=Wa 32 12 r
theorem Yfq(r:Nat):X5 0 r 11=Ygw r:=by kernel_rfl
theorem Yfw(r:Nat):Yd (Ygw r)=true:=Zi (by decide)
def Yoe(r:Nat):Option AV:=Wa 32 13 r
theorem Yqg(r:Nat):X5 0 r 12=Yoe r:=by kernel_rfl
theorem Yj0(r:Nat):Yd (Yoe r)=true:=Zi (by decide)
def Yq9(r:Nat):Option AV:=Wa 32 14 r
theorem Yjm(r:Nat):X5 0 r 13=Yq9 r:=by kernel_rfl
theorem Yrg(r:Nat):Yd (Yq9 r)=true:=Zi (by decide)
def Yox(r:Nat):Option AV:=Wa 32 15 r
theorem Yn0(r:Nat):X5 0 r 14=Yox r:=by kernel_rfl
theorem Yrh(r:Nat):Yd (Yox r)=true:=Zi (by decide)
def Yo6(r:Nat):Option AV:=Wa 32 16 r
theorem Ymw(r:Nat):X5 0 r 15=Yo6 r:=by kernel_rfl
theorem Yi2(r:Nat):Yd (Yo6 r)=true:=Zi (by decide)
def Yhg(r:Nat):Option AV:=Wa 32 17 r
theorem Yjn(r:Nat):X5 0 r 16=Yhg r:=by kernel_rfl
theorem Ylq(r:Nat):Yd (Yhg r)=true:=Zi (by decide)
def Ym2(r:Nat):Option AV:=Wa 32 18 r
theorem Ypu(r:Nat):X5 0 r 17=Ym2 r:=by kernel_rfl
theorem Ysd(r:Nat):Yd (Ym2 r)=true:=Zi (by decide)
def Ym4(r:Nat):Option AV:=Wa 32 19 r
theorem Ypb(r:Nat):X5 0 r 18=Ym4 r:=by kernel_rfl
theorem Yoy(r:Nat):Yd (Ym4 r)=true:=Zi (by decide)
def Yqq(r:Nat):Option AV:=Wa 32 20 r
theorem Yn5(r:Nat):X5 0 r 19=Yqq r:=by kernel_rfl
theorem Yf7(r:Nat):Yd (Yqq r)=true:=Zi (by decide)
def Yh4(r:Nat):Option AV:=Wa 32 21 r
theorem Yf0(r:Nat):X5 0 r 20=Yh4 r:=by kernel_rfl
theorem Ysh(r:Nat):Yd (Yh4 r)=true:=Zi (by decide)
def Ygp(r:Nat):Option AV:=Wa 32 22 r
theorem Ym6(r:Nat):X5 0 r 21=Ygp r:=by kernel_rfl
theorem Ykm(r:Nat):Yd (Ygp r)=true:=Zi (by decide)
def Yjh(r:Nat):Option AV:=Wa 32 23 r
theorem Yic(r:Nat):X5 0 r 22=Yjh r:=by kernel_rfl
theorem Ye7(r:Nat):Yd (Yjh r)=true:=Zi (by decide)
def Yp3(r:Nat):Option AV:=Wa 32 24 r
theorem Yob(r:Nat):X5 0 r 23=Yp3 r:=by kernel_rfl
theorem Yp9(r:Nat):Yd (Yp3 r)=true:=Zi (by decide)
def Ye3(r:Nat):Option AV:=Wa 32 25 r
theorem Ysc(r:Nat):X5 0 r 24=Ye3 r:=by kernel_rfl
theorem Ylv(r:Nat):Yd (Ye3 r)=true:=Zi (by decide)
def Yi4(r:Nat):Option AV:=Wa 32 26 r
theorem Ylb(r:Nat):X5 0 r 25=Yi4 r:=by kernel_rfl
theorem Yr0(r:Nat):Yd (Yi4 r)=true:=Zi (by decide)
def Ypq(r:Nat):Option AV:=Wa 32 27 r
theorem Ymm(r:Nat):X5 0 r 26=Ypq r:=by kernel_rfl
theorem Yrw(r:Nat):Yd (Ypq r)=true:=Zi (by decide)
def Yjp(r:Nat):Option AV:=Wa 32 28 r
theorem Ynd(r:Nat):X5 0 r 27=Yjp r:=by kernel_rfl
theorem Yjd(r:Nat):Yd (Yjp r)=true:=Zi (by decide)
def Ykz(r:Nat):Option AV:=Wa 32 29 r
theorem Yos(r:Nat):X5 0 r 28=Ykz r:=by kernel_rfl
theorem Yqu(r:Nat):Yd (Ykz r)=true:=Zi (by decide)
def Ygl(r:Nat):Option AV:=Wa 32 30 r
theorem Yme(r:Nat):X5 0 r 29=Ygl r:=by kernel_rfl
theorem Ylz(r:Nat):Yd (Ygl r)=true:=Zi (by decide)
def Ylm(r:Nat):Option AV:=Wa 32 31 r
theorem Yl4(r:Nat):X5 0 r 30=Ylm r:=by kernel_rfl
theorem Yfy(r:Nat):Yd (Ylm r)=true:=Zi (by decide)
def Z7j(r:Nat):Option AV:=bc (Nat.blt 63 r) (some (.tup [.int .u64 (.ofNat 0),.bool false])) (some (.tup [.int .u64 (.ofNat 0),.bool false]))
theorem Yrk(r:Nat):X5 0 r 31=Z7j r:=by kernel_rfl
theorem Ysv(r:Nat):Yd (Z7j r)=true:=by
 unfold Z7j
 repeat (first|rfl|apply Zx)
def Yhr(r:Nat):Option AV:=Wa 16 1 r
theorem Yhs(r:Nat):X5 0 r 32=Yhr r:=by kernel_rfl
theorem Yga(r:Nat):Yd (Yhr r)=true:=Zi (by decide)
def Ygr(r:Nat):Option AV:=Wa 16 2 r
theorem Yfu(r:Nat):X5 0 r 33=Ygr r:=by kernel_rfl
theorem Ykb(r:Nat):Yd (Ygr r)=true:=Zi (by decide)
def Yqx(r:Nat):Option AV:=Wa 16 3 r
theorem Yqy(r:Nat):X5 0 r 34=Yqx r:=by kernel_rfl
theorem Yq7(r:Nat):Yd (Yqx r)=true:=Zi (by decide)
def Yfp(r:Nat):Option AV:=Wa 16 4 r
theorem Yrb(r:Nat):X5 0 r 35=Yfp r:=by kernel_rfl
theorem Ypw(r:Nat):Yd (Yfp r)=true:=Zi (by decide)
def Yps(r:Nat):Option AV:=Wa 16 5 r
theorem Yh6(r:Nat):X5 0 r 36=Yps r:=by kernel_rfl
theorem Yk0(r:Nat):Yd (Yps r)=true:=Zi (by decide)
def Yim(r:Nat):Option AV:=Wa 16 6 r
theorem Yf1(r:Nat):X5 0 r 37=Yim r:=by kernel_rfl
theorem Ynl(r:Nat):Yd (Yim r)=true:=Zi (by decide)
def Yf6(r:Nat):Option AV:=Wa 16 7 r
theorem Yqv(r:Nat):X5 0 r 38=Yf6 r:=by kernel_rfl
theorem Yj7(r:Nat):Yd (Yf6 r)=true:=Zi (by decide)
def Yol(r:Nat):Option AV:=Wa 16 8 r
theorem Yht(r:Nat):X5 0 r 39=Yol r:=by kernel_rfl
theorem Ysj(r:Nat):Yd (Yol r)=true:=Zi (by decide)
def Yj1(r:Nat):Option AV:=Wa 16 9 r
theorem Yi6(r:Nat):X5 0 r 40=Yj1 r:=by kernel_rfl
theorem Ylt(r:Nat):Yd (Yj1 r)=true:=Zi (by decide)
def Yio(r:Nat):Option AV:=Wa 16 10 r
theorem Yff(r:Nat):X5 0 r 41=Yio r:=by kernel_rfl
theorem Ymk(r:Nat):Yd (Yio r)=true:=Zi (by decide)
def Yjz(r:Nat):Option AV:=Wa 16 11 r
theorem Yn3(r:Nat):X5 0 r 42=Yjz r:=by kernel_rfl
theorem Yiw(r:Nat):Yd (Yjz r)=true:=Zi (by decide)
def Yg7(r:Nat):Option AV:=Wa 16 12 r
theorem Yjl(r:Nat):X5 0 r 43=Yg7 r:=by kernel_rfl
theorem Yju(r:Nat):Yd (Yg7 r)=true:=Zi (by decide)
def Yhf(r:Nat):Option AV:=Wa 16 13 r
theorem Yrl(r:Nat):X5 0 r 44=Yhf r:=by kernel_rfl
theorem Yj8(r:Nat):Yd (Yhf r)=true:=Zi (by decide)
def Ygn(r:Nat):Option AV:=Wa 16 14 r
theorem Yjw(r:Nat):X5 0 r 45=Ygn r:=by kernel_rfl
theorem Yjy(r:Nat):Yd (Ygn r)=true:=Zi (by decide)
def Yis(r:Nat):Option AV:=Wa 16 15 r
theorem Ypf(r:Nat):X5 0 r 46=Yis r:=by kernel_rfl
theorem Ye9(r:Nat):Yd (Yis r)=true:=Zi (by decide)
def Z64(r:Nat):Option AV:=bc (Nat.blt 63 r) (some (.tup [.int .u64 (.ofNat 0),.bool false])) (some (.tup [.int .u64 (.ofNat 0),.bool false]))
theorem Ynk(r:Nat):X5 0 r 47=Z64 r:=by kernel_rfl
theorem Yiy(r:Nat):Yd (Z64 r)=true:=by
 unfold Z64
 repeat (first|rfl|apply Zx)
def Yf4(r:Nat):Option AV:=Wa 8 1 r
theorem Ym0(r:Nat):X5 0 r 48=Yf4 r:=by kernel_rfl
theorem Yfs(r:Nat):Yd (Yf4 r)=true:=Zi (by decide)
def Yr1(r:Nat):Option AV:=Wa 8 2 r
theorem Ypg(r:Nat):X5 0 r 49=Yr1 r:=by kernel_rfl
theorem Yqk(r:Nat):Yd (Yr1 r)=true:=Zi (by decide)
def Yqa(r:Nat):Option AV:=Wa 8 3 r
theorem Ykx(r:Nat):X5 0 r 50=Yqa r:=by kernel_rfl
theorem Yq6(r:Nat):Yd (Yqa r)=true:=Zi (by decide)
def Yq5(r:Nat):Option AV:=Wa 8 4 r
theorem Yj9(r:Nat):X5 0 r 51=Yq5 r:=by kernel_rfl
theorem Yno(r:Nat):Yd (Yq5 r)=true:=Zi (by decide)
def Yqd(r:Nat):Option AV:=Wa 8 5 r
theorem Yi7(r:Nat):X5 0 r 52=Yqd r:=by kernel_rfl
theorem Yqb(r:Nat):Yd (Yqd r)=true:=Zi (by decide)
def Yhi(r:Nat):Option AV:=Wa 8 6 r
theorem Yr5(r:Nat):X5 0 r 53=Yhi r:=by kernel_rfl
theorem Yr2(r:Nat):Yd (Yhi r)=true:=Zi (by decide)
def Yft(r:Nat):Option AV:=Wa 8 7 r
theorem Ym7(r:Nat):X5 0 r 54=Yft r:=by kernel_rfl
theorem Ypx(r:Nat):Yd (Yft r)=true:=Zi (by decide)
def Z85(r:Nat):Option AV:=bc (Nat.blt 63 r) (some (.tup [.int .u64 (.ofNat 0),.bool false])) (some (.tup [.int .u64 (.ofNat 0),.bool false]))
theorem Yn2(r:Nat):X5 0 r 55=Z85 r:=by kernel_rfl
theorem Yq4(r:Nat):Yd (Z85 r)=true:=by
 unfold Z85
 repeat (first|rfl|apply Zx)
def Ykr(r:Nat):Option AV:=Wa 4 1 r
theorem Yr3(r:Nat):X5 0 r 56=Ykr r:=by kernel_rfl
theorem Ysi(r:Nat):Yd (Ykr r)=true:=Zi (by decide)
def Yk9(r:Nat):Option AV:=Wa 4 2 r
theorem Ymu(r:Nat):X5 0 r 57=Yk9 r:=by kernel_rfl
theorem Yhc(r:Nat):Yd (Yk9 r)=true:=Zi (by decide)
def Yjr(r:Nat):Option AV:=Wa 4 3 r
theorem Ypi(r:Nat):X5 0 r 58=Yjr r:=by kernel_rfl
theorem Ypr(r:Nat):Yd (Yjr r)=true:=Zi (by decide)
def Z8g(r:Nat):Option AV:=bc (Nat.blt 63 r) (some (.tup [.int .u64 (.ofNat 0),.bool false])) (some (.tup [.int .u64 (.ofNat 0),.bool false]))
theorem Yfc(r:Nat):X5 0 r 59=Z8g r:=by kernel_rfl
theorem Yml(r:Nat):Yd (Z8g r)=true:=by
 unfold Z8g
 repeat (first|rfl|apply Zx)
def Yho(r:Nat):Option AV:=Wa 2 1 r
theorem Ymt(r:Nat):X5 0 r 60=Yho r:=by kernel_rfl
theorem Ykn(r:Nat):Yd (Yho r)=true:=Zi (by decide)
def Z7v(r:Nat):Option AV:=bc (Nat.blt 63 r) (some (.tup [.int .u64 (.ofNat 0),.bool false])) (some (.tup [.int .u64 (.ofNat 0),.bool false]))
theorem Yng(r:Nat):X5 0 r 61=Z7v r:=by kernel_rfl
theorem Yq1(r:Nat):Yd (Z7v r)=true:=by
 unfold Z7v
 repeat (first|rfl|apply Zx)
def Z7u(r:Nat):Option AV:=bc (Nat.blt 63 r) (some (.tup [.int .u64 (.ofNat 0),.bool false])) (some (.tup [.int .u64 (.ofNat 0),.bool false]))
theorem Yfr(r:Nat):X5 0 r 62=Z7u r:=by kernel_rfl
theorem Yli(r:Nat):Yd (Z7u r)=true:=by
 unfold Z7u
 repeat (first|rfl|apply Zx)
def Z7i(r:Nat):Option AV:=bc (Nat.blt 63 r) (some (.tup [.int .u64 (.ofNat 0),.bool false])) (some (.tup [.int .u64 (.ofNat 0),.bool false]))
theorem Ylf(r:Nat):X5 0 r 63=Z7i r:=by kernel_rfl
theorem Yqc(r:Nat):Yd (Z7i r)=true:=by
 unfold Z7i
 repeat (first|rfl|apply Zx)
def Yil(r:Nat):Option AV:=Wa 64 1 r
theorem Yni(r:Nat):X5 1 r 0=Yil r:=by kernel_rfl
theorem Yie(r:Nat):Yd (Yil r)=true:=Zi (by decide)
def Ygz(r:Nat):Option AV:=Wa 64 2 r
theorem Yh5(r:Nat):X5 1 r 1=Ygz r:=by kernel_rfl
theorem Ysu(r:Nat):Yd (Ygz r)=true:=Zi (by decide)
def Yoo(r:Nat):Option AV:=Wa 64 3 r
theorem Yk8(r:Nat):X5 1 r 2=Yoo r:=by kernel_rfl
theorem Yl3(r:Nat):Yd (Yoo r)=true:=Zi (by decide)
def Ykp(r:Nat):Option AV:=Wa 64 4 r
theorem Ypz(r:Nat):X5 1 r 3=Ykp r:=by kernel_rfl
theorem Yoz(r:Nat):Yd (Ykp r)=true:=Zi (by decide)
def Ygq(r:Nat):Option AV:=Wa 64 5 r
theorem Yrv(r:Nat):X5 1 r 4=Ygq r:=by kernel_rfl
theorem Yqm(r:Nat):Yd (Ygq r)=true:=Zi (by decide)
def Ysk(r:Nat):Option AV:=Wa 64 6 r
theorem Ymf(r:Nat):X5 1 r 5=Ysk r:=by kernel_rfl
theorem Yix(r:Nat):Yd (Ysk r)=true:=Zi (by decide)
def Ypa(r:Nat):Option AV:=Wa 64 7 r
theorem Yik(r:Nat):X5 1 r 6=Ypa r:=by kernel_rfl
theorem Yfm(r:Nat):Yd (Ypa r)=true:=Zi (by decide)
def Yr9(r:Nat):Option AV:=Wa 64 8 r
theorem Yin(r:Nat):X5 1 r 7=Yr9 r:=by kernel_rfl
theorem Yn4(r:Nat):Yd (Yr9 r)=true:=Zi (by decide)
def Yf5(r:Nat):Option AV:=Wa 64 9 r
theorem Yfz(r:Nat):X5 1 r 8=Yf5 r:=by kernel_rfl
theorem Yr6(r:Nat):Yd (Yf5 r)=true:=Zi (by decide)
def Ynu(r:Nat):Option AV:=Wa 64 10 r
theorem Yp1(r:Nat):X5 1 r 9=Ynu r:=by kernel_rfl
theorem Ylo(r:Nat):Yd (Ynu r)=true:=Zi (by decide)
def Ysg(r:Nat):Option AV:=Wa 64 11 r
theorem Yia(r:Nat):X5 1 r 10=Ysg r:=by kernel_rfl
theorem Yqh(r:Nat):Yd (Ysg r)=true:=Zi (by decide)
def Yig(r:Nat):Option AV:=Wa 64 12 r
theorem Yp8(r:Nat):X5 1 r 11=Yig r:=by kernel_rfl
theorem Ylk(r:Nat):Yd (Yig r)=true:=Zi (by decide)
def Ygy(r:Nat):Option AV:=Wa 64 13 r
theorem Ypm(r:Nat):X5 1 r 12=Ygy r:=by kernel_rfl
theorem Yjq(r:Nat):Yd (Ygy r)=true:=Zi (by decide)
def Yre(r:Nat):Option AV:=Wa 64 14 r
theorem Yom(r:Nat):X5 1 r 13=Yre r:=by kernel_rfl
theorem Yrs(r:Nat):Yd (Yre r)=true:=Zi (by decide)
def Ygc(r:Nat):Option AV:=Wa 64 15 r
theorem Ync(r:Nat):X5 1 r 14=Ygc r:=by kernel_rfl
theorem Ylw(r:Nat):Yd (Ygc r)=true:=Zi (by decide)
def Ysl(r:Nat):Option AV:=Wa 64 16 r
theorem Yfl(r:Nat):X5 1 r 15=Ysl r:=by kernel_rfl
theorem Ynn(r:Nat):Yd (Ysl r)=true:=Zi (by decide)
def Ygv(r:Nat):Option AV:=Wa 64 17 r
theorem Yhn(r:Nat):X5 1 r 16=Ygv r:=by kernel_rfl
theorem Yfv(r:Nat):Yd (Ygv r)=true:=Zi (by decide)
def Yjf(r:Nat):Option AV:=Wa 64 18 r
theorem Ymz(r:Nat):X5 1 r 17=Yjf r:=by kernel_rfl
theorem Yqi(r:Nat):Yd (Yjf r)=true:=Zi (by decide)
def Yfx(r:Nat):Option AV:=Wa 64 19 r
theorem Yrf(r:Nat):X5 1 r 18=Yfx r:=by kernel_rfl
theorem Yfh(r:Nat):Yd (Yfx r)=true:=Zi (by decide)
def Ykv(r:Nat):Option AV:=Wa 64 20 r
theorem Ygs(r:Nat):X5 1 r 19=Ykv r:=by kernel_rfl
theorem Yqz(r:Nat):Yd (Ykv r)=true:=Zi (by decide)
def Yo8(r:Nat):Option AV:=Wa 64 21 r
theorem Ymv(r:Nat):X5 1 r 20=Yo8 r:=by kernel_rfl
theorem Ymr(r:Nat):Yd (Yo8 r)=true:=Zi (by decide)
def Yf3(r:Nat):Option AV:=Wa 64 22 r
theorem Ylg(r:Nat):X5 1 r 21=Yf3 r:=by kernel_rfl
theorem Yro(r:Nat):Yd (Yf3 r)=true:=Zi (by decide)
def Yrr(r:Nat):Option AV:=Wa 64 23 r
theorem Ypv(r:Nat):X5 1 r 22=Yrr r:=by kernel_rfl
theorem Yf8(r:Nat):Yd (Yrr r)=true:=Zi (by decide)
def Ypp(r:Nat):Option AV:=Wa 64 24 r
theorem Yod(r:Nat):X5 1 r 23=Ypp r:=by kernel_rfl
theorem Ynq(r:Nat):Yd (Ypp r)=true:=Zi (by decide)
def Yqs(r:Nat):Option AV:=Wa 64 25 r
theorem Yru(r:Nat):X5 1 r 24=Yqs r:=by kernel_rfl
theorem Yn6(r:Nat):Yd (Yqs r)=true:=Zi (by decide)
def Yp5(r:Nat):Option AV:=Wa 64 26 r
theorem Ym5(r:Nat):X5 1 r 25=Yp5 r:=by kernel_rfl
theorem Yfg(r:Nat):Yd (Yp5 r)=true:=Zi (by decide)
def Yib(r:Nat):Option AV:=Wa 64 27 r
theorem Yop(r:Nat):X5 1 r 26=Yib r:=by kernel_rfl
theorem Yqj(r:Nat):Yd (Yib r)=true:=Zi (by decide)
def Ygb(r:Nat):Option AV:=Wa 64 28 r
theorem Yqo(r:Nat):X5 1 r 27=Ygb r:=by kernel_rfl
theorem Yhh(r:Nat):Yd (Ygb r)=true:=Zi (by decide)
def Yjv(r:Nat):Option AV:=Wa 64 29 r
theorem Ynw(r:Nat):X5 1 r 28=Yjv r:=by kernel_rfl
theorem Yl1(r:Nat):Yd (Yjv r)=true:=Zi (by decide)
def Yo1(r:Nat):Option AV:=Wa 64 30 r
theorem Ylj(r:Nat):X5 1 r 29=Yo1 r:=by kernel_rfl
theorem Ysn(r:Nat):Yd (Yo1 r)=true:=Zi (by decide)
def Yfd(r:Nat):Option AV:=Wa 64 31 r
theorem Yhb(r:Nat):X5 1 r 30=Yfd r:=by kernel_rfl
theorem Yj3(r:Nat):Yd (Yfd r)=true:=Zi (by decide)
def Ylx(r:Nat):Option AV:=Wa 64 32 r
theorem Ysq(r:Nat):X5 1 r 31=Ylx r:=by kernel_rfl
theorem Yg5(r:Nat):Yd (Ylx r)=true:=Zi (by decide)
def Yle(r:Nat):Option AV:=Wa 64 33 r
theorem Ym9(r:Nat):X5 1 r 32=Yle r:=by kernel_rfl
theorem Yn9(r:Nat):Yd (Yle r)=true:=Zi (by decide)
def Yj6(r:Nat):Option AV:=Wa 64 34 r
theorem Ygi(r:Nat):X5 1 r 33=Yj6 r:=by kernel_rfl
theorem Yr4(r:Nat):Yd (Yj6 r)=true:=Zi (by decide)
def Yfn(r:Nat):Option AV:=Wa 64 35 r
theorem Yot(r:Nat):X5 1 r 34=Yfn r:=by kernel_rfl
theorem Yns(r:Nat):Yd (Yfn r)=true:=Zi (by decide)
def Yiu(r:Nat):Option AV:=Wa 64 36 r
theorem Yln(r:Nat):X5 1 r 35=Yiu r:=by kernel_rfl
theorem Ysm(r:Nat):Yd (Yiu r)=true:=Zi (by decide)
def Z26(r:Nat):Option AV:=Wa 64 37 r
theorem Z99(r:Nat):X5 1 r 36=Z26 r:=by kernel_rfl
theorem Ybi(r:Nat):Yd (Z26 r)=true:=Zi (by decide)
def Z57(r:Nat):Option AV:=Wa 64 38 r
theorem Ycg(r:Nat):X5 1 r 37=Z57 r:=by kernel_rfl
theorem Ydi(r:Nat):Yd (Z57 r)=true:=Zi (by decide)
def Z6i(r:Nat):Option AV:=Wa 64 39 r
theorem Ydx(r:Nat):X5 1 r 38=Z6i r:=by kernel_rfl
theorem Yad(r:Nat):Yd (Z6i r)=true:=Zi (by decide)
def Z3n(r:Nat):Option AV:=Wa 64 40 r
theorem Ycl(r:Nat):X5 1 r 39=Z3n r:=by kernel_rfl
theorem Yau(r:Nat):Yd (Z3n r)=true:=Zi (by decide)
def Z5a(r:Nat):Option AV:=Wa 64 41 r
theorem Yej(r:Nat):X5 1 r 40=Z5a r:=by kernel_rfl
theorem Yc9(r:Nat):Yd (Z5a r)=true:=Zi (by decide)
def Z48(r:Nat):Option AV:=Wa 64 42 r
theorem Z9u(r:Nat):X5 1 r 41=Z48 r:=by kernel_rfl
theorem Z92(r:Nat):Yd (Z48 r)=true:=Zi (by decide)
def Z5w(r:Nat):Option AV:=Wa 64 43 r
theorem Yaj(r:Nat):X5 1 r 42=Z5w r:=by kernel_rfl
theorem Ybo(r:Nat):Yd (Z5w r)=true:=Zi (by decide)
def Z3m(r:Nat):Option AV:=Wa 64 44 r
theorem Yd5(r:Nat):X5 1 r 43=Z3m r:=by kernel_rfl
theorem Yam(r:Nat):Yd (Z3m r)=true:=Zi (by decide)
def Z2x(r:Nat):Option AV:=Wa 64 45 r
theorem Yca(r:Nat):X5 1 r 44=Z2x r:=by kernel_rfl
theorem Ycj(r:Nat):Yd (Z2x r)=true:=Zi (by decide)
def Z5c(r:Nat):Option AV:=Wa 64 46 r
theorem Yeo(r:Nat):X5 1 r 45=Z5c r:=by kernel_rfl
theorem Ybu(r:Nat):Yd (Z5c r)=true:=Zi (by decide)
def Z10(r:Nat):Option AV:=Wa 64 47 r
theorem Yal(r:Nat):X5 1 r 46=Z10 r:=by kernel_rfl
theorem Yeb(r:Nat):Yd (Z10 r)=true:=Zi (by decide)
def Z2f(r:Nat):Option AV:=Wa 64 48 r
theorem Ybj(r:Nat):X5 1 r 47=Z2f r:=by kernel_rfl
theorem Ydb(r:Nat):Yd (Z2f r)=true:=Zi (by decide)
def Z4q(r:Nat):Option AV:=Wa 64 49 r
theorem Yan(r:Nat):X5 1 r 48=Z4q r:=by kernel_rfl
theorem Yas(r:Nat):Yd (Z4q r)=true:=Zi (by decide)
def Z3h(r:Nat):Option AV:=Wa 64 50 r
theorem Ya3(r:Nat):X5 1 r 49=Z3h r:=by kernel_rfl
theorem Yey(r:Nat):Yd (Z3h r)=true:=Zi (by decide)
def Z3t(r:Nat):Option AV:=Wa 64 51 r
theorem Yc5(r:Nat):X5 1 r 50=Z3t r:=by kernel_rfl
theorem Yax(r:Nat):Yd (Z3t r)=true:=Zi (by decide)
def Z3x(r:Nat):Option AV:=Wa 64 52 r
theorem Yaq(r:Nat):X5 1 r 51=Z3x r:=by kernel_rfl
theorem Yc8(r:Nat):Yd (Z3x r)=true:=Zi (by decide)
def Z4b(r:Nat):Option AV:=Wa 64 53 r
theorem Yck(r:Nat):X5 1 r 52=Z4b r:=by kernel_rfl
theorem Yd3(r:Nat):Yd (Z4b r)=true:=Zi (by decide)
def Z4p(r:Nat):Option AV:=Wa 64 54 r
theorem Yee(r:Nat):X5 1 r 53=Z4p r:=by kernel_rfl
theorem Yba(r:Nat):Yd (Z4p r)=true:=Zi (by decide)
def Z2l(r:Nat):Option AV:=Wa 64 55 r
theorem Ycp(r:Nat):X5 1 r 54=Z2l r:=by kernel_rfl
theorem Yec(r:Nat):Yd (Z2l r)=true:=Zi (by decide)
def Z4f(r:Nat):Option AV:=Wa 64 56 r
theorem Yc7(r:Nat):X5 1 r 55=Z4f r:=by kernel_rfl
theorem Z9y(r:Nat):Yd (Z4f r)=true:=Zi (by decide)
def Z6d(r:Nat):Option AV:=Wa 64 57 r
theorem Yd1(r:Nat):X5 1 r 56=Z6d r:=by kernel_rfl
theorem Ycy(r:Nat):Yd (Z6d r)=true:=Zi (by decide)
def Z6f(r:Nat):Option AV:=Wa 64 58 r
theorem Yei(r:Nat):X5 1 r 57=Z6f r:=by kernel_rfl
theorem Ybv(r:Nat):Yd (Z6f r)=true:=Zi (by decide)
def Z4s(r:Nat):Option AV:=Wa 64 59 r
theorem Ya9(r:Nat):X5 1 r 58=Z4s r:=by kernel_rfl
theorem Yev(r:Nat):Yd (Z4s r)=true:=Zi (by decide)
def Z4o(r:Nat):Option AV:=Wa 64 60 r
theorem Yde(r:Nat):X5 1 r 59=Z4o r:=by kernel_rfl
theorem Ydy(r:Nat):Yd (Z4o r)=true:=Zi (by decide)
def Z4e(r:Nat):Option AV:=Wa 64 61 r
theorem Yek(r:Nat):X5 1 r 60=Z4e r:=by kernel_rfl
theorem Yb0(r:Nat):Yd (Z4e r)=true:=Zi (by decide)
def Z3j(r:Nat):Option AV:=Wa 64 62 r
theorem Yae(r:Nat):X5 1 r 61=Z3j r:=by kernel_rfl
theorem Ybl(r:Nat):Yd (Z3j r)=true:=Zi (by decide)
def Z49(r:Nat):Option AV:=Wa 64 63 r
theorem Yep(r:Nat):X5 1 r 62=Z49 r:=by kernel_rfl
theorem Z98(r:Nat):Yd (Z49 r)=true:=Zi (by decide)
def Zwx(r:Nat):Option AV:=bc (Nat.blt 63 r) (some (.tup [.int .u64 (.ofNat 0),.bool false])) (some (.tup [.int .u64 (.ofNat 0),.bool false]))
theorem Ybb(r:Nat):X5 1 r 63=Zwx r:=by kernel_rfl
theorem Yef(r:Nat):Yd (Zwx r)=true:=by
 unfold Zwx
 repeat (first|rfl|apply Zx)
def atL:List (Nat→Option AV):=[Y1f,Y12,Y4u,Y5a,Y0l,Y30,Y2v,Y1d,Y1w,Y4g,Ynj,Ygw,Yoe,Yq9,Yox,Yo6,Yhg,Ym2,Ym4,Yqq,Yh4,Ygp,Yjh,Yp3,Ye3,Yi4,Ypq,Yjp,Ykz,Ygl,Ylm,Z7j,Yhr,Ygr,Yqx,Yfp,Yps,Yim,Yf6,Yol,Yj1,Yio,Yjz,Yg7,Yhf,Ygn,Yis,Z64,Yf4,Yr1,Yqa,Yq5,Yqd,Yhi,Yft,Z85,Ykr,Yk9,Yjr,Z8g,Yho,Z7v,Z7u,Z7i,Yil,Ygz,Yoo,Ykp,Ygq,Ysk,Ypa,Yr9,Yf5,Ynu,Ysg,Yig,Ygy,Yre,Ygc,Ysl,Ygv,Yjf,Yfx,Ykv,Yo8,Yf3,Yrr,Ypp,Yqs,Yp5,Yib,Ygb,Yjv,Yo1,Yfd,Ylx,Yle,Yj6,Yfn,Yiu,Z26,Z57,Z6i,Z3n,Z5a,Z48,Z5w,Z3m,Z2x,Z5c,Z10,Z2f,Z4q,Z3h,Z3t,Z3x,Z4b,Z4p,Z2l,Z4f,Z6d,Z6f,Z4s,Z4o,Z4e,Z3j,Z49,Zwx]
theorem atO0(n r s:Int):Yr ML1 1000 (.call 105 [.int .i64 n,.int .i64 r,.int .i64 s] (Yc 12 gl)) [true,true,true,true,true,true,true,true,true,true,true] jK=bc (Z2 n (.ofNat 0)) (some (.tup [.int .u64 (.ofNat 0),.bool false])) none:=by kernel_rfl
theorem atO1(n r s:Int):Yr ML1 1000 (.call 105 [.int .i64 n,.int .i64 r,.int .i64 s] (Yc 12 gl)) [false,false,true,true,true,true,true,true,true,true,true] jK=bc (Z2 n (.ofNat 0)) none (bc (Z2 (.ofNat 1) n) (some (.tup [.int .u64 (.ofNat 0),.bool false])) none):=by kernel_rfl
theorem atO2(n r s:Int):Yr ML1 1000 (.call 105 [.int .i64 n,.int .i64 r,.int .i64 s] (Yc 12 gl)) [false,false,false,false,true,true,true,true,true,true,true] jK=bc (Z2 n (.ofNat 0)) none (bc (Z2 (.ofNat 1) n) none (bc (Z2 r (.ofNat 0)) (some (.tup [.int .u64 (.ofNat 0),.bool false])) none)):=by kernel_rfl
theorem atO3(n r s:Int):Yr ML1 1000 (.call 105 [.int .i64 n,.int .i64 r,.int .i64 s] (Yc 12 gl)) [false,false,false,false,false,false,true,true,true,true,true] jK=bc (Z2 n (.ofNat 0)) none (bc (Z2 (.ofNat 1) n) none (bc (Z2 r (.ofNat 0)) none (bc (Z2 (.ofNat 63) r) (some (.tup [.int .u64 (.ofNat 0),.bool false])) none))):=by kernel_rfl
theorem atO4(n r s:Int):Yr ML1 1000 (.call 105 [.int .i64 n,.int .i64 r,.int .i64 s] (Yc 12 gl)) [false,false,false,false,false,false,false,false,true,true,true] jK=bc (Z2 n (.ofNat 0)) none (bc (Z2 (.ofNat 1) n) none (bc (Z2 r (.ofNat 0)) none (bc (Z2 (.ofNat 63) r) none (bc (Z2 s (.ofNat 0)) (some (.tup [.int .u64 (.ofNat 0),.bool false])) none)))):=by kernel_rfl
theorem atO5(n r s:Int):Yr ML1 1000 (.call 105 [.int .i64 n,.int .i64 r,.int .i64 s] (Yc 12 gl)) [false,false,false,false,false,false,false,false,false,false,true] jK=bc (Z2 n (.ofNat 0)) none (bc (Z2 (.ofNat 1) n) none (bc (Z2 r (.ofNat 0)) none (bc (Z2 (.ofNat 63) r) none (bc (Z2 s (.ofNat 0)) none (bc (Z2 (.ofNat 63) s) (some (.tup [.int .u64 (.ofNat 0),.bool false])) none))))):=by kernel_rfl
theorem Y1b:∀ k,k<128→∀ r:Nat,∃ f,atL[k]?=some f∧Yd (f r)=true∧Yr ML1 1000 (.call 105 [.int .i64 (.ofNat (k / 64)),.int .i64 (.ofNat r),.int .i64 (.ofNat (k % 64))] (Yc 12 gl)) [] jK=f r
 |0,_,r=>⟨_,rfl,Yu1 r,Yuj r⟩
 |1,_,r=>⟨_,rfl,Yws r,Yww r⟩
 |2,_,r=>⟨_,rfl,Yut r,Yvj r⟩
 |3,_,r=>⟨_,rfl,Yw3 r,Yvx r⟩
 |4,_,r=>⟨_,rfl,Yuk r,Ywu r⟩
 |5,_,r=>⟨_,rfl,Yuv r,Yyx r⟩
 |6,_,r=>⟨_,rfl,Yvk r,Yuw r⟩
 |7,_,r=>⟨_,rfl,Yti r,Yt3 r⟩
 |8,_,r=>⟨_,rfl,Yuz r,Yt7 r⟩
 |9,_,r=>⟨_,rfl,Yyv r,Yt9 r⟩
 |10,_,r=>⟨_,rfl,Yg6 r,Ynx r⟩
 |11,_,r=>⟨_,rfl,Yfw r,Yfq r⟩
 |12,_,r=>⟨_,rfl,Yj0 r,Yqg r⟩
 |13,_,r=>⟨_,rfl,Yrg r,Yjm r⟩
 |14,_,r=>⟨_,rfl,Yrh r,Yn0 r⟩
 |15,_,r=>⟨_,rfl,Yi2 r,Ymw r⟩
 |16,_,r=>⟨_,rfl,Ylq r,Yjn r⟩
 |17,_,r=>⟨_,rfl,Ysd r,Ypu r⟩
 |18,_,r=>⟨_,rfl,Yoy r,Ypb r⟩
 |19,_,r=>⟨_,rfl,Yf7 r,Yn5 r⟩
 |20,_,r=>⟨_,rfl,Ysh r,Yf0 r⟩
 |21,_,r=>⟨_,rfl,Ykm r,Ym6 r⟩
 |22,_,r=>⟨_,rfl,Ye7 r,Yic r⟩
 |23,_,r=>⟨_,rfl,Yp9 r,Yob r⟩
 |24,_,r=>⟨_,rfl,Ylv r,Ysc r⟩
 |25,_,r=>⟨_,rfl,Yr0 r,Ylb r⟩
 |26,_,r=>⟨_,rfl,Yrw r,Ymm r⟩
 |27,_,r=>⟨_,rfl,Yjd r,Ynd r⟩
 |28,_,r=>⟨_,rfl,Yqu r,Yos r⟩
 |29,_,r=>⟨_,rfl,Ylz r,Yme r⟩
 |30,_,r=>⟨_,rfl,Yfy r,Yl4 r⟩
 |31,_,r=>⟨_,rfl,Ysv r,Yrk r⟩
 |32,_,r=>⟨_,rfl,Yga r,Yhs r⟩
 |33,_,r=>⟨_,rfl,Ykb r,Yfu r⟩
 |34,_,r=>⟨_,rfl,Yq7 r,Yqy r⟩
 |35,_,r=>⟨_,rfl,Ypw r,Yrb r⟩
 |36,_,r=>⟨_,rfl,Yk0 r,Yh6 r⟩
 |37,_,r=>⟨_,rfl,Ynl r,Yf1 r⟩
 |38,_,r=>⟨_,rfl,Yj7 r,Yqv r⟩
 |39,_,r=>⟨_,rfl,Ysj r,Yht r⟩
 |40,_,r=>⟨_,rfl,Ylt r,Yi6 r⟩
 |41,_,r=>⟨_,rfl,Ymk r,Yff r⟩
 |42,_,r=>⟨_,rfl,Yiw r,Yn3 r⟩
 |43,_,r=>⟨_,rfl,Yju r,Yjl r⟩
 |44,_,r=>⟨_,rfl,Yj8 r,Yrl r⟩
 |45,_,r=>⟨_,rfl,Yjy r,Yjw r⟩
 |46,_,r=>⟨_,rfl,Ye9 r,Ypf r⟩
 |47,_,r=>⟨_,rfl,Yiy r,Ynk r⟩
 |48,_,r=>⟨_,rfl,Yfs r,Ym0 r⟩
 |49,_,r=>⟨_,rfl,Yqk r,Ypg r⟩
 |50,_,r=>⟨_,rfl,Yq6 r,Ykx r⟩
 |51,_,r=>⟨_,rfl,Yno r,Yj9 r⟩
 |52,_,r=>⟨_,rfl,Yqb r,Yi7 r⟩
 |53,_,r=>⟨_,rfl,Yr2 r,Yr5 r⟩
 |54,_,r=>⟨_,rfl,Ypx r,Ym7 r⟩
 |55,_,r=>⟨_,rfl,Yq4 r,Yn2 r⟩
 |56,_,r=>⟨_,rfl,Ysi r,Yr3 r⟩
 |57,_,r=>⟨_,rfl,Yhc r,Ymu r⟩
 |58,_,r=>⟨_,rfl,Ypr r,Ypi r⟩
 |59,_,r=>⟨_,rfl,Yml r,Yfc r⟩
 |60,_,r=>⟨_,rfl,Ykn r,Ymt r⟩
 |61,_,r=>⟨_,rfl,Yq1 r,Yng r⟩
 |62,_,r=>⟨_,rfl,Yli r,Yfr r⟩
 |63,_,r=>⟨_,rfl,Yqc r,Ylf r⟩
 |64,_,r=>⟨_,rfl,Yie r,Yni r⟩
 |65,_,r=>⟨_,rfl,Ysu r,Yh5 r⟩
 |66,_,r=>⟨_,rfl,Yl3 r,Yk8 r⟩
 |67,_,r=>⟨_,rfl,Yoz r,Ypz r⟩
 |68,_,r=>⟨_,rfl,Yqm r,Yrv r⟩
 |69,_,r=>⟨_,rfl,Yix r,Ymf r⟩
 |70,_,r=>⟨_,rfl,Yfm r,Yik r⟩
 |71,_,r=>⟨_,rfl,Yn4 r,Yin r⟩
 |72,_,r=>⟨_,rfl,Yr6 r,Yfz r⟩
 |73,_,r=>⟨_,rfl,Ylo r,Yp1 r⟩
 |74,_,r=>⟨_,rfl,Yqh r,Yia r⟩
 |75,_,r=>⟨_,rfl,Ylk r,Yp8 r⟩
 |76,_,r=>⟨_,rfl,Yjq r,Ypm r⟩
 |77,_,r=>⟨_,rfl,Yrs r,Yom r⟩
 |78,_,r=>⟨_,rfl,Ylw r,Ync r⟩
 |79,_,r=>⟨_,rfl,Ynn r,Yfl r⟩
 |80,_,r=>⟨_,rfl,Yfv r,Yhn r⟩
 |81,_,r=>⟨_,rfl,Yqi r,Ymz r⟩
 |82,_,r=>⟨_,rfl,Yfh r,Yrf r⟩
 |83,_,r=>⟨_,rfl,Yqz r,Ygs r⟩
 |84,_,r=>⟨_,rfl,Ymr r,Ymv r⟩
 |85,_,r=>⟨_,rfl,Yro r,Ylg r⟩
 |86,_,r=>⟨_,rfl,Yf8 r,Ypv r⟩
 |87,_,r=>⟨_,rfl,Ynq r,Yod r⟩
 |88,_,r=>⟨_,rfl,Yn6 r,Yru r⟩
 |89,_,r=>⟨_,rfl,Yfg r,Ym5 r⟩
 |90,_,r=>⟨_,rfl,Yqj r,Yop r⟩
 |91,_,r=>⟨_,rfl,Yhh r,Yqo r⟩
 |92,_,r=>⟨_,rfl,Yl1 r,Ynw r⟩
 |93,_,r=>⟨_,rfl,Ysn r,Ylj r⟩
 |94,_,r=>⟨_,rfl,Yj3 r,Yhb r⟩
 |95,_,r=>⟨_,rfl,Yg5 r,Ysq r⟩
 |96,_,r=>⟨_,rfl,Yn9 r,Ym9 r⟩
 |97,_,r=>⟨_,rfl,Yr4 r,Ygi r⟩
 |98,_,r=>⟨_,rfl,Yns r,Yot r⟩
 |99,_,r=>⟨_,rfl,Ysm r,Yln r⟩
 |100,_,r=>⟨_,rfl,Ybi r,Z99 r⟩
 |101,_,r=>⟨_,rfl,Ydi r,Ycg r⟩
 |102,_,r=>⟨_,rfl,Yad r,Ydx r⟩
 |103,_,r=>⟨_,rfl,Yau r,Ycl r⟩
 |104,_,r=>⟨_,rfl,Yc9 r,Yej r⟩
 |105,_,r=>⟨_,rfl,Z92 r,Z9u r⟩
 |106,_,r=>⟨_,rfl,Ybo r,Yaj r⟩
 |107,_,r=>⟨_,rfl,Yam r,Yd5 r⟩
 |108,_,r=>⟨_,rfl,Ycj r,Yca r⟩
 |109,_,r=>⟨_,rfl,Ybu r,Yeo r⟩
 |110,_,r=>⟨_,rfl,Yeb r,Yal r⟩
 |111,_,r=>⟨_,rfl,Ydb r,Ybj r⟩
 |112,_,r=>⟨_,rfl,Yas r,Yan r⟩
 |113,_,r=>⟨_,rfl,Yey r,Ya3 r⟩
 |114,_,r=>⟨_,rfl,Yax r,Yc5 r⟩
 |115,_,r=>⟨_,rfl,Yc8 r,Yaq r⟩
 |116,_,r=>⟨_,rfl,Yd3 r,Yck r⟩
 |117,_,r=>⟨_,rfl,Yba r,Yee r⟩
 |118,_,r=>⟨_,rfl,Yec r,Ycp r⟩
 |119,_,r=>⟨_,rfl,Z9y r,Yc7 r⟩
 |120,_,r=>⟨_,rfl,Ycy r,Yd1 r⟩
 |121,_,r=>⟨_,rfl,Ybv r,Yei r⟩
 |122,_,r=>⟨_,rfl,Yev r,Ya9 r⟩
 |123,_,r=>⟨_,rfl,Ydy r,Yde r⟩
 |124,_,r=>⟨_,rfl,Yb0 r,Yek r⟩
 |125,_,r=>⟨_,rfl,Ybl r,Yae r⟩
 |126,_,r=>⟨_,rfl,Z98 r,Yep r⟩
 |127,_,r=>⟨_,rfl,Yef r,Ybb r⟩
 |n+128,h,_=>absurd h (by omega)
def atT(n r s:Int):Option AV:=(bc (Z2 n (.ofNat 0)) (some (.tup [.int .u64 (.ofNat 0),.bool false])) (bc (Z2 (.ofNat 1) n) (some (.tup [.int .u64 (.ofNat 0),.bool false])) (bc (Z2 r (.ofNat 0)) (some (.tup [.int .u64 (.ofNat 0),.bool false])) (bc (Z2 (.ofNat 63) r) (some (.tup [.int .u64 (.ofNat 0),.bool false])) (bc (Z2 s (.ofNat 0)) (some (.tup [.int .u64 (.ofNat 0),.bool false])) (bc (Z2 (.ofNat 63) s) (some (.tup [.int .u64 (.ofNat 0),.bool false])) (match atL[n.toNat*64+s.toNat]? with | some f=>f r.toNat | none=>none)))))))
def atV(n r s:Int):Int:=Va (at_ [0] ((atT n r s).getD .nilp))
def atB(n r s:Int):Bool:=Zeo (at_ [1] ((atT n r s).getD .nilp))
theorem Zew{n r s:Int}(h:Yd (atT n r s)=true):atT n r s=some (.tup [.int .u64 (atV n r s),.bool (atB n r s)]):=by
 unfold atV atB
 generalize atT n r s=x at h ⊢
 unfold Yd at h
 split at h
 ·rfl
 ·cases h
theorem Y3v(n r s:Int):∃ o,Yr ML1 1000 (.call 105 [.int .i64 n,.int .i64 r,.int .i64 s] (Yc 12 gl)) o jK=some (.tup [.int .u64 (atV n r s),.bool (atB n r s)]):=by
 cases h0:Z2 n (.ofNat 0) with
 |true=>
  have e:atT n r s=(some (.tup [.int .u64 (.ofNat 0),.bool false])):=by unfold atT;simp only[h0,Ym]
  exact⟨[true,true,true,true,true,true,true,true,true,true,true],(atO0 n r s).trans (by rw[←Zew (by rw[e];rfl),e];simp only[h0,Ym])⟩
 |false=>
 cases h1:Z2 (.ofNat 1) n with
 |true=>
  have e:atT n r s=(some (.tup [.int .u64 (.ofNat 0),.bool false])):=by unfold atT;simp only[h0,h1,Yg,Ym]
  exact⟨[false,false,true,true,true,true,true,true,true,true,true],(atO1 n r s).trans (by rw[←Zew (by rw[e];rfl),e];simp only[h0,h1,Yg,Ym])⟩
 |false=>
 cases h2:Z2 r (.ofNat 0) with
 |true=>
  have e:atT n r s=(some (.tup [.int .u64 (.ofNat 0),.bool false])):=by unfold atT;simp only[h0,h1,h2,Yg,Ym]
  exact⟨[false,false,false,false,true,true,true,true,true,true,true],(atO2 n r s).trans (by rw[←Zew (by rw[e];rfl),e];simp only[h0,h1,h2,Yg,Ym])⟩
 |false=>
 cases h3:Z2 (.ofNat 63) r with
 |true=>
  have e:atT n r s=(some (.tup [.int .u64 (.ofNat 0),.bool false])):=by unfold atT;simp only[h0,h1,h2,h3,Yg,Ym]
  exact⟨[false,false,false,false,false,false,true,true,true,true,true],(atO3 n r s).trans (by rw[←Zew (by rw[e];rfl),e];simp only[h0,h1,h2,h3,Yg,Ym])⟩
 |false=>
 cases h4:Z2 s (.ofNat 0) with
 |true=>
  have e:atT n r s=(some (.tup [.int .u64 (.ofNat 0),.bool false])):=by unfold atT;simp only[h0,h1,h2,h3,h4,Yg,Ym]
  exact⟨[false,false,false,false,false,false,false,false,true,true,true],(atO4 n r s).trans (by rw[←Zew (by rw[e];rfl),e];simp only[h0,h1,h2,h3,h4,Yg,Ym])⟩
 |false=>
 cases h5:Z2 (.ofNat 63) s with
 |true=>
  have e:atT n r s=(some (.tup [.int .u64 (.ofNat 0),.bool false])):=by unfold atT;simp only[h0,h1,h2,h3,h4,h5,Yg,Ym]
  exact⟨[false,false,false,false,false,false,false,false,false,false,true],(atO5 n r s).trans (by rw[←Zew (by rw[e];rfl),e];simp only[h0,h1,h2,h3,h4,h5,Yg,Ym])⟩
 |false=>
 simp only[Y2,decide_eq_false_iff_not,Int.not_lt] at h0 h1 h2 h3 h4 h5
 obtain⟨a,rfl⟩:=Int.eq_ofNat_of_zero_le h0
 obtain⟨b,rfl⟩:=Int.eq_ofNat_of_zero_le h4
 obtain⟨c,rfl⟩:=Int.eq_ofNat_of_zero_le h2
 have ha:a≤1:=Int.ofNat_le.1 h1
 have hb:b≤63:=Int.ofNat_le.1 h5
 obtain⟨f,f1,f2,f3⟩:=Y1b (a*64+b) (by omega) c
 have q1:(a*64+b) / 64=a:=by omega
 have q2:(a*64+b) % 64=b:=by omega
 rw[q1,q2] at f3
 have e:atT (a:Int) (c:Int) (b:Int)=f c:=by
  have g0:Z2 (a:Int) (.ofNat 0)=false:=by rw[Y2,decide_eq_false_iff_not];exact Int.not_lt.2 h0
  have g1:Z2 (.ofNat 1) (a:Int)=false:=by rw[Y2,decide_eq_false_iff_not];exact Int.not_lt.2 h1
  have g2:Z2 (c:Int) (.ofNat 0)=false:=by rw[Y2,decide_eq_false_iff_not];exact Int.not_lt.2 h2
  have g3:Z2 (.ofNat 63) (c:Int)=false:=by rw[Y2,decide_eq_false_iff_not];exact Int.not_lt.2 h3
  have g4:Z2 (b:Int) (.ofNat 0)=false:=by rw[Y2,decide_eq_false_iff_not];exact Int.not_lt.2 h4
  have g5:Z2 (.ofNat 63) (b:Int)=false:=by rw[Y2,decide_eq_false_iff_not];exact Int.not_lt.2 h5
  unfold atT
  simp only[g0,g1,g2,g3,g4,g5,Yg]
  show(match atL[a*64+b]? with | some f=>f c | none=>none)=f c
  rw[f1]
 exact⟨[],f3.trans (by rw[←Zew (by rw[e];exact f2),e])⟩
end
end Go.Proofs.YtaakhjmfojoodaaGreatDoor
